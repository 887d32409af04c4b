/- TypesMay: the walk. -/
import Derived.Test.YteclbnjpijakbaaDoorL1
set_option linter.unusedSimpArgs false
set_option maxRecDepth 8000
namespace Go.Proofs
open Go Go.AL

theorem tmod_nat (W : Int) (h : 0 ≤ W) (m : Nat) : W.tmod m = ((W.toNat % m : Nat) : Int) := by
  obtain ⟨n, rfl⟩ := Int.eq_ofNat_of_zero_le h
  rfl

theorem begun_one {st s : St} {c : Ob} (hB : Begun (st ++ [c]) s 6) : s[st.length]? = some c ∧ s[st.length + 2]? = some (.cells [.sc (.int .i64 6), .mp (st.length + 1)]) := by
  refine ⟨?_, ?_⟩
  · rw [hB.old _ (by rw [List.length_append]; exact Nat.lt_succ_self _)]
    simp
  · have := hB.own
    rw [List.length_append] at this
    exact this

theorem ty_drop3 (n : Ty) : (tySV n).cells.drop 3 = [] := by rw [cells_ty]; rfl
attribute [go_sem] ty_drop3

theorem pre_of {st s : St} {c X : Ob} (h : ∀ j, j < (st ++ [c]).length → s[j]? = (st ++ [c])[j]?) : ∃ ex, s.set st.length X = st ++ ex := by
  refine ⟨(s.set st.length X).drop st.length, ?_⟩
  have h1 : (s.set st.length X).take st.length = st := by
    apply List.ext_getElem?
    intro j
    by_cases hj : j < st.length
    · rw [List.getElem?_take, if_pos hj, List.getElem?_set_ne (by omega), h j (by simp; omega), List.getElem?_append_left hj]
    · rw [List.getElem?_take, if_neg hj, List.getElem?_eq_none (by omega)]
  conv => lhs; rw [← List.take_append_drop st.length (s.set st.length X)]
  rw [h1]
theorem pre_app {st s : St} (h : ∃ ex, s = st ++ ex) (l : St) : ∃ ex, s ++ l = st ++ ex := by
  obtain ⟨ex, rfl⟩ := h
  exact ⟨ex ++ l, by rw [List.append_assoc]⟩

theorem con0_c (n : ByteArray) (K : SV → St → Prop) (st : St) (h : K (tySV (.mk 0 n [])) st) : ACalls Tryd.prog 15 [.sc (.string n), .slice .full 0 []] K st :=
  acalls_args (args' := [.sc (.string n), .slice .full 3 ([].map tySV)]) (.cons (SVle.refl _) (.cons (SVle.nil .full 0 3 (.inl rfl)) .nil)) (con_c n [] .full K st h)
theorem con1_c (n : ByteArray) (x : Ty) (K : SV → St → Prop) (st : St) (h : K (tySV (.mk 0 n [x])) st) : ACalls Tryd.prog 15 [.sc (.string n), .slice .full 3 [tySV x]] K st := con_c n [x] .full K st h
theorem rep_tA (k : Nat) : (List.replicate k tA).map tySV ++ [tySV tA] = (List.replicate (k + 1) tA).map tySV := by rw [List.replicate_succ', List.map_append]; rfl

set_option maxHeartbeats 4000000 in
theorem typesMay_w (t : Ty) (wide deep W D : Int) (hW : ((wide < 0) = True ∧ IntKind.i64.wrap (0 - IntKind.i64.wrap (wide + 1)) = W) ∨ ((W < 0) = False ∧ wide = W))
    (hD : ((deep < 0) = True ∧ IntKind.i64.wrap (0 - IntKind.i64.wrap (deep + 1)) = D) ∨ ((D < 0) = False ∧ deep = D)) (hW0 : 0 ≤ W) (hD0 : 0 ≤ D)
    (K : SV → St → Prop) (st : St) (h : K (.sc (.bool true)) st) : ACalls Tryd.prog 4 [tySV t, .sc (.int .i64 wide), .sc (.int .i64 deep)] K st := by
  refine acalls_go_pure [3] Tryd.func4 rfl Tryd.results4 Tryd.ntmps4 ?_
  have hm := tmod_nat W hW0 220
  have hq := tmod_nat D hD0 50
  have hn : W.toNat % 220 < 220 := Nat.mod_lt _ (by omega)
  have hqn : D.toNat % 50 < 50 := Nat.mod_lt _ (by omega)
  obtain ⟨n, hnn⟩ : ∃ n, W.toNat % 220 = n := ⟨_, rfl⟩
  obtain ⟨q, hqq⟩ : ∃ q, D.toNat % 50 = q := ⟨_, rfl⟩
  rw [hnn] at hm hn
  rw [hqq] at hq hqn
  have hm : W.tmod 220 = (n : Int) := hm
  have hq : D.tmod 50 = (q : Int) := hq
  have hq1 : IntKind.i64.wrap (1 + (q : Int)) = 1 + (q : Int) := IntWalk.i64_in _ (by omega)
  rcases hW with ⟨w1, w2⟩ | ⟨w1, w2⟩
  all_goals rcases hD with ⟨d1, d2⟩ | ⟨d1, d2⟩
  all_goals
    simp only [go_sem, imp_self, implies_true, reduceCtorEq, false_imp_iff, true_imp_iff, decide_true, decide_false, Int.toNat_natCast, Int.toNat_zero, Int.toNat_one, Int.natCast_nonneg, Int.le_refl, Nat.le_refl, Nat.reduceAdd, Nat.reduceMul, Nat.reduceLeDiff, Nat.reduceLT, Int.reduceLE, Int.reduceLT, Int.reduceEq, Nat.reduceBEq, Nat.reduceEqDiff, Bool.not_true, Bool.not_false, Bool.and_false, Bool.false_and, Bool.or_true, Bool.true_or, Bool.or_false, Bool.false_or, call_funcH, c_drawH, c_loopH, gAll_F, gIf_F, pickB_true, pickB_false, Array.toList_append, List.cons_append, List.nil_append, opTmps, List.contains_cons, List.contains_nil]
    refine begin_c _ _ (fun s hB => ?_)
    have f := cells_facts (begun_one hB).1
    have g := cells_facts (begun_one hB).2
    simp only [go_sem, imp_self, implies_true, reduceCtorEq, false_imp_iff, true_imp_iff, decide_true, decide_false, Int.toNat_natCast, Int.toNat_zero, Int.toNat_one, Int.natCast_nonneg, Int.le_refl, Nat.le_refl, Nat.reduceAdd, Nat.reduceMul, Nat.reduceLeDiff, Nat.reduceLT, Int.reduceLE, Int.reduceLT, Int.reduceEq, Nat.reduceBEq, Nat.reduceEqDiff, Bool.not_true, Bool.not_false, Bool.and_false, Bool.false_and, Bool.or_true, Bool.true_or, Bool.or_false, Bool.false_or, call_funcH, c_drawH, c_loopH, gAll_F, gIf_F, pickB_true, pickB_false, Array.toList_append, List.cons_append, List.nil_append, opTmps, List.contains_cons, List.contains_nil, f.1, f.2.1, f.2.2, g.1, g.2.1, g.2.2]
    refine cut_c 6 (by omega) _ _ _ ?_
    simp only [go_sem, imp_self, implies_true, reduceCtorEq, false_imp_iff, true_imp_iff, decide_true, decide_false, Int.toNat_natCast, Int.toNat_zero, Int.toNat_one, Int.natCast_nonneg, Int.le_refl, Nat.le_refl, Nat.reduceAdd, Nat.reduceMul, Nat.reduceLeDiff, Nat.reduceLT, Int.reduceLE, Int.reduceLT, Int.reduceEq, Nat.reduceBEq, Nat.reduceEqDiff, Bool.not_true, Bool.not_false, Bool.and_false, Bool.false_and, Bool.or_true, Bool.true_or, Bool.or_false, Bool.false_or, call_funcH, c_drawH, c_loopH, gAll_F, gIf_F, pickB_true, pickB_false, Array.toList_append, List.cons_append, List.nil_append, opTmps, List.contains_cons, List.contains_nil, f.1, f.2.1, f.2.2, g.1, g.2.1, g.2.2, w1, w2, d1, d2]
    refine awp_own 9 3 0 rfl ?_
    simp only [go_sem, imp_self, implies_true, reduceCtorEq, false_imp_iff, true_imp_iff, decide_true, decide_false, Int.toNat_natCast, Int.toNat_zero, Int.toNat_one, Int.natCast_nonneg, Int.le_refl, Nat.le_refl, Nat.reduceAdd, Nat.reduceMul, Nat.reduceLeDiff, Nat.reduceLT, Int.reduceLE, Int.reduceLT, Int.reduceEq, Nat.reduceBEq, Nat.reduceEqDiff, Bool.not_true, Bool.not_false, Bool.and_false, Bool.false_and, Bool.or_true, Bool.true_or, Bool.or_false, Bool.false_or, call_funcH, c_drawH, c_loopH, gAll_F, gIf_F, pickB_true, pickB_false, Array.toList_append, List.cons_append, List.nil_append, opTmps, List.contains_cons, List.contains_nil]
    refine awp_rounds [] (fun m e s' => ∃ k, k + m = n ∧ e = [.any, .sc (.int .i64 W), .sc (.int .i64 D), .ptr st.length 0, .any, .any, .any, .ptr (st.length + 2) 0, .any, .slice (.own s.length k) 3 ((List.replicate k tA).map tySV), .sc (.int .i64 k), .any, .any, .any, .any, .any, .any, .any, .any, .any, .any, .any, .any, .any, .any, .any, .any, .any, .any, .any, .any, .any, .any, .any, .any, .any, .any, .any, .any, .any, .any, .any, .any, .any, .any, .any, .any, .any, .any, .any, .any, .any, .any, .any, .any, .any, .any, .any, .any, .any, .any, .any, .any, .any, .any, .any, .any, .any, .any, .any, .any, .any, .any, .any, .any, .any, .any, .any, .any, .any, .any, .any, .any] ∧
      s' = s.set st.length (.cells (tySV (cutT 6 t)).cells) ++ [.tok k]) (n := n) ?_ ⟨0, by omega, rfl, rfl⟩ ?_
    · repeat (first | exact leEnv_nil | refine leEnv_any _ ?_ | refine leEnv_same _ ?_ | refine leEnv_norm _ ?_)
    rintro m e s' ⟨k, hkm, rfl, rfl⟩
    by_cases hlt : k < n
    · have c1 : (k : Int) < (n : Int) := by omega
      have hw : IntKind.i64.wrap ((k : Int) + 1) = ((k + 1 : Nat) : Int) := by rw [IntWalk.i64_in _ (by omega)]; rfl
      have happ : AppOk Tryd.prog 23 23 3 (k + 1) := app3 (by omega)
      simp only [go_sem, imp_self, implies_true, reduceCtorEq, false_imp_iff, true_imp_iff, decide_true, decide_false, Int.toNat_natCast, Int.toNat_zero, Int.toNat_one, Int.natCast_nonneg, Int.le_refl, Nat.le_refl, Nat.reduceAdd, Nat.reduceMul, Nat.reduceLeDiff, Nat.reduceLT, Int.reduceLE, Int.reduceLT, Int.reduceEq, Nat.reduceBEq, Nat.reduceEqDiff, Bool.not_true, Bool.not_false, Bool.and_false, Bool.false_and, Bool.or_true, Bool.true_or, Bool.or_false, Bool.false_or, call_funcH, c_drawH, c_loopH, gAll_F, gIf_F, pickB_true, pickB_false, Array.toList_append, List.cons_append, List.nil_append, opTmps, List.contains_cons, List.contains_nil, hm, c1]
      refine con0_c _ _ _ ?_
      simp only [go_sem, imp_self, implies_true, reduceCtorEq, false_imp_iff, true_imp_iff, decide_true, decide_false, Int.toNat_natCast, Int.toNat_zero, Int.toNat_one, Int.natCast_nonneg, Int.le_refl, Nat.le_refl, Nat.reduceAdd, Nat.reduceMul, Nat.reduceLeDiff, Nat.reduceLT, Int.reduceLE, Int.reduceLT, Int.reduceEq, Nat.reduceBEq, Nat.reduceEqDiff, Bool.not_true, Bool.not_false, Bool.and_false, Bool.false_and, Bool.or_true, Bool.true_or, Bool.or_false, Bool.false_or, call_funcH, c_drawH, c_loopH, gAll_F, gIf_F, pickB_true, pickB_false, Array.toList_append, List.cons_append, List.nil_append, opTmps, List.contains_cons, List.contains_nil, hw, List.length_replicate]
      refine ⟨happ, m - 1, _, by omega, ?_, k + 1, by omega, rfl, rfl⟩
      rw [← rep_tA]
      repeat (first | exact leEnv_nil | refine leEnv_any _ ?_ | refine leEnv_same _ ?_ | refine leEnv_norm _ ?_)
    obtain rfl : k = n := by omega
    have c1 : ((k : Int) < (k : Int)) = False := eq_false (by omega)
    simp only [go_sem, imp_self, implies_true, reduceCtorEq, false_imp_iff, true_imp_iff, decide_true, decide_false, Int.toNat_natCast, Int.toNat_zero, Int.toNat_one, Int.natCast_nonneg, Int.le_refl, Nat.le_refl, Nat.reduceAdd, Nat.reduceMul, Nat.reduceLeDiff, Nat.reduceLT, Int.reduceLE, Int.reduceLT, Int.reduceEq, Nat.reduceBEq, Nat.reduceEqDiff, Bool.not_true, Bool.not_false, Bool.and_false, Bool.false_and, Bool.or_true, Bool.true_or, Bool.or_false, Bool.false_or, call_funcH, c_drawH, c_loopH, gAll_F, gIf_F, pickB_true, pickB_false, Array.toList_append, List.cons_append, List.nil_append, opTmps, List.contains_cons, List.contains_nil, hm, c1]
    refine con_c _ _ _ _ _ ?_
    simp only [go_sem, imp_self, implies_true, reduceCtorEq, false_imp_iff, true_imp_iff, decide_true, decide_false, Int.toNat_natCast, Int.toNat_zero, Int.toNat_one, Int.natCast_nonneg, Int.le_refl, Nat.le_refl, Nat.reduceAdd, Nat.reduceMul, Nat.reduceLeDiff, Nat.reduceLT, Int.reduceLE, Int.reduceLT, Int.reduceEq, Nat.reduceBEq, Nat.reduceEqDiff, Bool.not_true, Bool.not_false, Bool.and_false, Bool.false_and, Bool.or_true, Bool.true_or, Bool.or_false, Bool.false_or, call_funcH, c_drawH, c_loopH, gAll_F, gIf_F, pickB_true, pickB_false, Array.toList_append, List.cons_append, List.nil_append, opTmps, List.contains_cons, List.contains_nil]
    refine con0_c _ _ _ ?_
    simp only [go_sem, imp_self, implies_true, reduceCtorEq, false_imp_iff, true_imp_iff, decide_true, decide_false, Int.toNat_natCast, Int.toNat_zero, Int.toNat_one, Int.natCast_nonneg, Int.le_refl, Nat.le_refl, Nat.reduceAdd, Nat.reduceMul, Nat.reduceLeDiff, Nat.reduceLT, Int.reduceLE, Int.reduceLT, Int.reduceEq, Nat.reduceBEq, Nat.reduceEqDiff, Bool.not_true, Bool.not_false, Bool.and_false, Bool.false_and, Bool.or_true, Bool.true_or, Bool.or_false, Bool.false_or, call_funcH, c_drawH, c_loopH, gAll_F, gIf_F, pickB_true, pickB_false, Array.toList_append, List.cons_append, List.nil_append, opTmps, List.contains_cons, List.contains_nil]
    refine awp_rounds [] (fun m e s' => ∃ j, j + m = q ∧ e = [.any, .sc (.int .i64 W), .sc (.int .i64 D), .ptr st.length 0, .any, .any, .any, .ptr (st.length + 2) 0, .any, .any, .any, .ptr (s.length + 1) 0, .ptr (s.length + 2) 0, .sc (.int .i64 (1 + (j : Int))), .any, .any, .any, .any, .any, .any, .any, .any, .any, .any, .any, .any, .any, .any, .any, .any, .any, .any, .any, .any, .any, .any, .any, .any, .any, .any, .any, .any, .any, .any, .any, .any, .any, .any, .any, .any, .any, .any, .any, .any, .any, .any, .any, .any, .any, .any, .any, .any, .any, .any, .any, .any, .any, .any, .any, .any, .any, .any, .any, .any, .any, .any, .any, .any, .any, .any, .any, .any, .any] ∧
      s' = s.set st.length (.cells (tySV (cutT 6 t)).cells) ++ [.tok k, .cells (tySV (.mk 0 ⟨#[119]⟩ (List.replicate k tA))).cells, .cells (tySV (chain ⟨#[100]⟩ j)).cells]) (n := q) ?_ ⟨0, by omega, rfl, rfl⟩ ?_
    · repeat (first | exact leEnv_nil | refine leEnv_any _ ?_ | refine leEnv_same _ ?_ | refine leEnv_norm _ ?_)
    rintro m e s' ⟨j, hjm, rfl, rfl⟩
    by_cases hlt : j < q
    · have c2 : (1 : Int) + (j : Int) < 1 + (q : Int) := by omega
      have hw : IntKind.i64.wrap (1 + (j : Int) + 1) = 1 + ((j + 1 : Nat) : Int) := by rw [IntWalk.i64_in _ (by omega)]; omega
      simp only [go_sem, imp_self, implies_true, reduceCtorEq, false_imp_iff, true_imp_iff, decide_true, decide_false, Int.toNat_natCast, Int.toNat_zero, Int.toNat_one, Int.natCast_nonneg, Int.le_refl, Nat.le_refl, Nat.reduceAdd, Nat.reduceMul, Nat.reduceLeDiff, Nat.reduceLT, Int.reduceLE, Int.reduceLT, Int.reduceEq, Nat.reduceBEq, Nat.reduceEqDiff, Bool.not_true, Bool.not_false, Bool.and_false, Bool.false_and, Bool.or_true, Bool.true_or, Bool.or_false, Bool.false_or, call_funcH, c_drawH, c_loopH, gAll_F, gIf_F, pickB_true, pickB_false, Array.toList_append, List.cons_append, List.nil_append, opTmps, List.contains_cons, List.contains_nil, hq, hq1, c2]
      refine con1_c _ _ _ _ ?_
      simp only [go_sem, imp_self, implies_true, reduceCtorEq, false_imp_iff, true_imp_iff, decide_true, decide_false, Int.toNat_natCast, Int.toNat_zero, Int.toNat_one, Int.natCast_nonneg, Int.le_refl, Nat.le_refl, Nat.reduceAdd, Nat.reduceMul, Nat.reduceLeDiff, Nat.reduceLT, Int.reduceLE, Int.reduceLT, Int.reduceEq, Nat.reduceBEq, Nat.reduceEqDiff, Bool.not_true, Bool.not_false, Bool.and_false, Bool.false_and, Bool.or_true, Bool.true_or, Bool.or_false, Bool.false_or, call_funcH, c_drawH, c_loopH, gAll_F, gIf_F, pickB_true, pickB_false, Array.toList_append, List.cons_append, List.nil_append, opTmps, List.contains_cons, List.contains_nil, hw]
      refine ⟨m - 1, _, by omega, ?_, j + 1, by omega, rfl, rfl⟩
      repeat (first | exact leEnv_nil | refine leEnv_any _ ?_ | refine leEnv_same _ ?_ | refine leEnv_norm _ ?_)
    obtain rfl : j = q := by omega
    have c2 : ((1 : Int) + (j : Int) < 1 + (j : Int)) = False := eq_false (by omega)
    have hne : (st.length + 2 ≠ st.length) = True := eq_true (by omega)
    have hne2 : (st.length + 2 = st.length) = False := eq_false (by omega)
    simp only [go_sem, imp_self, implies_true, reduceCtorEq, false_imp_iff, true_imp_iff, decide_true, decide_false, Int.toNat_natCast, Int.toNat_zero, Int.toNat_one, Int.natCast_nonneg, Int.le_refl, Nat.le_refl, Nat.reduceAdd, Nat.reduceMul, Nat.reduceLeDiff, Nat.reduceLT, Int.reduceLE, Int.reduceLT, Int.reduceEq, Nat.reduceBEq, Nat.reduceEqDiff, Bool.not_true, Bool.not_false, Bool.and_false, Bool.false_and, Bool.or_true, Bool.true_or, Bool.or_false, Bool.false_or, call_funcH, c_drawH, c_loopH, gAll_F, gIf_F, pickB_true, pickB_false, Array.toList_append, List.cons_append, List.nil_append, opTmps, List.contains_cons, List.contains_nil, hq, hq1, c2]
    refine awp_draw [] Tryd.mixed rfl ?_
    simp only [go_sem, imp_self, implies_true, reduceCtorEq, false_imp_iff, true_imp_iff, decide_true, decide_false, Int.toNat_natCast, Int.toNat_zero, Int.toNat_one, Int.natCast_nonneg, Int.le_refl, Nat.le_refl, Nat.reduceAdd, Nat.reduceMul, Nat.reduceLeDiff, Nat.reduceLT, Int.reduceLE, Int.reduceLT, Int.reduceEq, Nat.reduceBEq, Nat.reduceEqDiff, Bool.not_true, Bool.not_false, Bool.and_false, Bool.false_and, Bool.or_true, Bool.true_or, Bool.or_false, Bool.false_or, call_funcH, c_drawH, c_loopH, gAll_F, gIf_F, pickB_true, pickB_false, Array.toList_append, List.cons_append, List.nil_append, opTmps, List.contains_cons, List.contains_nil, f.1, f.2.1, f.2.2, g.1, g.2.1, g.2.2]
    obtain ⟨b, hb⟩ : ∃ b, mayB (fun n => decide (1 ≤ n) && decide (n ≤ 6)) (cutT 6 t) = b := ⟨_, rfl⟩
    refine ⟨.sc (.bool b), ?_, ?_⟩
    · simp only [go_sem, imp_self, implies_true, reduceCtorEq, false_imp_iff, true_imp_iff, decide_true, decide_false, Int.toNat_natCast, Int.toNat_zero, Int.toNat_one, Int.natCast_nonneg, Int.le_refl, Nat.le_refl, Nat.reduceAdd, Nat.reduceMul, Nat.reduceLeDiff, Nat.reduceLT, Int.reduceLE, Int.reduceLT, Int.reduceEq, Nat.reduceBEq, Nat.reduceEqDiff, Bool.not_true, Bool.not_false, Bool.and_false, Bool.false_and, Bool.or_true, Bool.true_or, Bool.or_false, Bool.false_or, call_funcH, c_drawH, c_loopH, gAll_F, gIf_F, pickB_true, pickB_false, Array.toList_append, List.cons_append, List.nil_append, opTmps, List.contains_cons, List.contains_nil, f.1, f.2.1, f.2.2, g.1, g.2.1, g.2.2, hne, hne2]
      refine May_c (st.length + 2) 6 (.mp (st.length + 1)) _ _ _ (by simp only [go_sem, imp_self, implies_true, reduceCtorEq, false_imp_iff, true_imp_iff, decide_true, decide_false, Int.toNat_natCast, Int.toNat_zero, Int.toNat_one, Int.natCast_nonneg, Int.le_refl, Nat.le_refl, Nat.reduceAdd, Nat.reduceMul, Nat.reduceLeDiff, Nat.reduceLT, Int.reduceLE, Int.reduceLT, Int.reduceEq, Nat.reduceBEq, Nat.reduceEqDiff, Bool.not_true, Bool.not_false, Bool.and_false, Bool.false_and, Bool.or_true, Bool.true_or, Bool.or_false, Bool.false_or, call_funcH, c_drawH, c_loopH, gAll_F, gIf_F, pickB_true, pickB_false, Array.toList_append, List.cons_append, List.nil_append, opTmps, List.contains_cons, List.contains_nil, f.1, f.2.1, f.2.2, g.1, g.2.1, g.2.2, hne, hne2]) (by simp only [go_sem, imp_self, implies_true, reduceCtorEq, false_imp_iff, true_imp_iff, decide_true, decide_false, Int.toNat_natCast, Int.toNat_zero, Int.toNat_one, Int.natCast_nonneg, Int.le_refl, Nat.le_refl, Nat.reduceAdd, Nat.reduceMul, Nat.reduceLeDiff, Nat.reduceLT, Int.reduceLE, Int.reduceLT, Int.reduceEq, Nat.reduceBEq, Nat.reduceEqDiff, Bool.not_true, Bool.not_false, Bool.and_false, Bool.false_and, Bool.or_true, Bool.true_or, Bool.or_false, Bool.false_or, call_funcH, c_drawH, c_loopH, gAll_F, gIf_F, pickB_true, pickB_false, Array.toList_append, List.cons_append, List.nil_append, opTmps, List.contains_cons, List.contains_nil, f.1, f.2.1, f.2.2, g.1, g.2.1, g.2.2, hne, hne2]) ?_
      rw [hb]
      exact ⟨⟨[], by simp⟩, .sc _, .inl rfl⟩
    simp only [go_sem, imp_self, implies_true, reduceCtorEq, false_imp_iff, true_imp_iff, decide_true, decide_false, Int.toNat_natCast, Int.toNat_zero, Int.toNat_one, Int.natCast_nonneg, Int.le_refl, Nat.le_refl, Nat.reduceAdd, Nat.reduceMul, Nat.reduceLeDiff, Nat.reduceLT, Int.reduceLE, Int.reduceLT, Int.reduceEq, Nat.reduceBEq, Nat.reduceEqDiff, Bool.not_true, Bool.not_false, Bool.and_false, Bool.false_and, Bool.or_true, Bool.true_or, Bool.or_false, Bool.false_or, call_funcH, c_drawH, c_loopH, gAll_F, gIf_F, pickB_true, pickB_false, Array.toList_append, List.cons_append, List.nil_append, opTmps, List.contains_cons, List.contains_nil, f.1, f.2.1, f.2.2, g.1, g.2.1, g.2.2, hne, hne2]
    refine ⟨.sc (.bool b), ?_, ?_⟩
    · simp only [go_sem, imp_self, implies_true, reduceCtorEq, false_imp_iff, true_imp_iff, decide_true, decide_false, Int.toNat_natCast, Int.toNat_zero, Int.toNat_one, Int.natCast_nonneg, Int.le_refl, Nat.le_refl, Nat.reduceAdd, Nat.reduceMul, Nat.reduceLeDiff, Nat.reduceLT, Int.reduceLE, Int.reduceLT, Int.reduceEq, Nat.reduceBEq, Nat.reduceEqDiff, Bool.not_true, Bool.not_false, Bool.and_false, Bool.false_and, Bool.or_true, Bool.true_or, Bool.or_false, Bool.false_or, call_funcH, c_drawH, c_loopH, gAll_F, gIf_F, pickB_true, pickB_false, Array.toList_append, List.cons_append, List.nil_append, opTmps, List.contains_cons, List.contains_nil, f.1, f.2.1, f.2.2, g.1, g.2.1, g.2.2, hne, hne2]
      refine Form_c 6 _ _ _ ?_
      rw [hb]
      exact ⟨⟨[], by simp⟩, .sc _, .inl rfl⟩
    simp only [go_sem, imp_self, implies_true, reduceCtorEq, false_imp_iff, true_imp_iff, decide_true, decide_false, Int.toNat_natCast, Int.toNat_zero, Int.toNat_one, Int.natCast_nonneg, Int.le_refl, Nat.le_refl, Nat.reduceAdd, Nat.reduceMul, Nat.reduceLeDiff, Nat.reduceLT, Int.reduceLE, Int.reduceLT, Int.reduceEq, Nat.reduceBEq, Nat.reduceEqDiff, Bool.not_true, Bool.not_false, Bool.and_false, Bool.false_and, Bool.or_true, Bool.true_or, Bool.or_false, Bool.false_or, call_funcH, c_drawH, c_loopH, gAll_F, gIf_F, pickB_true, pickB_false, Array.toList_append, List.cons_append, List.nil_append, opTmps, List.contains_cons, List.contains_nil, f.1, f.2.1, f.2.2, g.1, g.2.1, g.2.2, hne, hne2, beq_self_eq_true]
    refine ⟨?_, .sc (.bool (decide (k < 200))), fun _ => ?_, ?_⟩
    · simp only [go_sem, imp_self, implies_true, reduceCtorEq, false_imp_iff, true_imp_iff, decide_true, decide_false, Int.toNat_natCast, Int.toNat_zero, Int.toNat_one, Int.natCast_nonneg, Int.le_refl, Nat.le_refl, Nat.reduceAdd, Nat.reduceMul, Nat.reduceLeDiff, Nat.reduceLT, Int.reduceLE, Int.reduceLT, Int.reduceEq, Nat.reduceBEq, Nat.reduceEqDiff, Bool.not_true, Bool.not_false, Bool.and_false, Bool.false_and, Bool.or_true, Bool.true_or, Bool.or_false, Bool.false_or, call_funcH, c_drawH, c_loopH, gAll_F, gIf_F, pickB_true, pickB_false, Array.toList_append, List.cons_append, List.nil_append, opTmps, List.contains_cons, List.contains_nil, f.1, f.2.1, f.2.2, g.1, g.2.1, g.2.2, hne, hne2, beq_self_eq_true]
    · simp only [go_sem, imp_self, implies_true, reduceCtorEq, false_imp_iff, true_imp_iff, decide_true, decide_false, Int.toNat_natCast, Int.toNat_zero, Int.toNat_one, Int.natCast_nonneg, Int.le_refl, Nat.le_refl, Nat.reduceAdd, Nat.reduceMul, Nat.reduceLeDiff, Nat.reduceLT, Int.reduceLE, Int.reduceLT, Int.reduceEq, Nat.reduceBEq, Nat.reduceEqDiff, Bool.not_true, Bool.not_false, Bool.and_false, Bool.false_and, Bool.or_true, Bool.true_or, Bool.or_false, Bool.false_or, call_funcH, c_drawH, c_loopH, gAll_F, gIf_F, pickB_true, pickB_false, Array.toList_append, List.cons_append, List.nil_append, opTmps, List.contains_cons, List.contains_nil, f.1, f.2.1, f.2.2, g.1, g.2.1, g.2.2, hne, hne2, beq_self_eq_true]
      refine May_c (st.length + 2) 6 (.mp (st.length + 1)) _ _ _ (by simp only [go_sem, imp_self, implies_true, reduceCtorEq, false_imp_iff, true_imp_iff, decide_true, decide_false, Int.toNat_natCast, Int.toNat_zero, Int.toNat_one, Int.natCast_nonneg, Int.le_refl, Nat.le_refl, Nat.reduceAdd, Nat.reduceMul, Nat.reduceLeDiff, Nat.reduceLT, Int.reduceLE, Int.reduceLT, Int.reduceEq, Nat.reduceBEq, Nat.reduceEqDiff, Bool.not_true, Bool.not_false, Bool.and_false, Bool.false_and, Bool.or_true, Bool.true_or, Bool.or_false, Bool.false_or, call_funcH, c_drawH, c_loopH, gAll_F, gIf_F, pickB_true, pickB_false, Array.toList_append, List.cons_append, List.nil_append, opTmps, List.contains_cons, List.contains_nil, f.1, f.2.1, f.2.2, g.1, g.2.1, g.2.2, hne, hne2]) (by simp only [go_sem, imp_self, implies_true, reduceCtorEq, false_imp_iff, true_imp_iff, decide_true, decide_false, Int.toNat_natCast, Int.toNat_zero, Int.toNat_one, Int.natCast_nonneg, Int.le_refl, Nat.le_refl, Nat.reduceAdd, Nat.reduceMul, Nat.reduceLeDiff, Nat.reduceLT, Int.reduceLE, Int.reduceLT, Int.reduceEq, Nat.reduceBEq, Nat.reduceEqDiff, Bool.not_true, Bool.not_false, Bool.and_false, Bool.false_and, Bool.or_true, Bool.true_or, Bool.or_false, Bool.false_or, call_funcH, c_drawH, c_loopH, gAll_F, gIf_F, pickB_true, pickB_false, Array.toList_append, List.cons_append, List.nil_append, opTmps, List.contains_cons, List.contains_nil, f.1, f.2.1, f.2.2, g.1, g.2.1, g.2.2, hne, hne2]) ?_
      rw [may_wide]
      exact ⟨⟨[], by simp⟩, .sc _, .inl rfl⟩
    have e200 : (decide (k < 200) == decide ((k : Int) < 200)) = true := by
      have : ((k : Int) < 200) = (k < 200) := by apply propext; omega
      simp [this]
    have e40 : (decide (j ≤ 39) == decide (1 + (j : Int) ≤ 40)) = true := by
      have : (1 + (j : Int) ≤ 40) = (j ≤ 39) := by apply propext; omega
      simp [this]
    simp only [go_sem, imp_self, implies_true, reduceCtorEq, false_imp_iff, true_imp_iff, decide_true, decide_false, Int.toNat_natCast, Int.toNat_zero, Int.toNat_one, Int.natCast_nonneg, Int.le_refl, Nat.le_refl, Nat.reduceAdd, Nat.reduceMul, Nat.reduceLeDiff, Nat.reduceLT, Int.reduceLE, Int.reduceLT, Int.reduceEq, Nat.reduceBEq, Nat.reduceEqDiff, Bool.not_true, Bool.not_false, Bool.and_false, Bool.false_and, Bool.or_true, Bool.true_or, Bool.or_false, Bool.false_or, call_funcH, c_drawH, c_loopH, gAll_F, gIf_F, pickB_true, pickB_false, Array.toList_append, List.cons_append, List.nil_append, opTmps, List.contains_cons, List.contains_nil, f.1, f.2.1, f.2.2, g.1, g.2.1, g.2.2, hne, hne2, beq_self_eq_true, hm, e200]
    refine ⟨?_, .sc (.bool (decide (j ≤ 39))), fun _ => ?_, ?_⟩
    · simp only [go_sem, imp_self, implies_true, reduceCtorEq, false_imp_iff, true_imp_iff, decide_true, decide_false, Int.toNat_natCast, Int.toNat_zero, Int.toNat_one, Int.natCast_nonneg, Int.le_refl, Nat.le_refl, Nat.reduceAdd, Nat.reduceMul, Nat.reduceLeDiff, Nat.reduceLT, Int.reduceLE, Int.reduceLT, Int.reduceEq, Nat.reduceBEq, Nat.reduceEqDiff, Bool.not_true, Bool.not_false, Bool.and_false, Bool.false_and, Bool.or_true, Bool.true_or, Bool.or_false, Bool.false_or, call_funcH, c_drawH, c_loopH, gAll_F, gIf_F, pickB_true, pickB_false, Array.toList_append, List.cons_append, List.nil_append, opTmps, List.contains_cons, List.contains_nil, f.1, f.2.1, f.2.2, g.1, g.2.1, g.2.2, hne, hne2, beq_self_eq_true, hm, e200]
    · simp only [go_sem, imp_self, implies_true, reduceCtorEq, false_imp_iff, true_imp_iff, decide_true, decide_false, Int.toNat_natCast, Int.toNat_zero, Int.toNat_one, Int.natCast_nonneg, Int.le_refl, Nat.le_refl, Nat.reduceAdd, Nat.reduceMul, Nat.reduceLeDiff, Nat.reduceLT, Int.reduceLE, Int.reduceLT, Int.reduceEq, Nat.reduceBEq, Nat.reduceEqDiff, Bool.not_true, Bool.not_false, Bool.and_false, Bool.false_and, Bool.or_true, Bool.true_or, Bool.or_false, Bool.false_or, call_funcH, c_drawH, c_loopH, gAll_F, gIf_F, pickB_true, pickB_false, Array.toList_append, List.cons_append, List.nil_append, opTmps, List.contains_cons, List.contains_nil, f.1, f.2.1, f.2.2, g.1, g.2.1, g.2.2, hne, hne2, beq_self_eq_true, hm, e200]
      refine May_c (st.length + 2) 6 (.mp (st.length + 1)) _ _ _ (by simp only [go_sem, imp_self, implies_true, reduceCtorEq, false_imp_iff, true_imp_iff, decide_true, decide_false, Int.toNat_natCast, Int.toNat_zero, Int.toNat_one, Int.natCast_nonneg, Int.le_refl, Nat.le_refl, Nat.reduceAdd, Nat.reduceMul, Nat.reduceLeDiff, Nat.reduceLT, Int.reduceLE, Int.reduceLT, Int.reduceEq, Nat.reduceBEq, Nat.reduceEqDiff, Bool.not_true, Bool.not_false, Bool.and_false, Bool.false_and, Bool.or_true, Bool.true_or, Bool.or_false, Bool.false_or, call_funcH, c_drawH, c_loopH, gAll_F, gIf_F, pickB_true, pickB_false, Array.toList_append, List.cons_append, List.nil_append, opTmps, List.contains_cons, List.contains_nil, f.1, f.2.1, f.2.2, g.1, g.2.1, g.2.2, hne, hne2]) (by simp only [go_sem, imp_self, implies_true, reduceCtorEq, false_imp_iff, true_imp_iff, decide_true, decide_false, Int.toNat_natCast, Int.toNat_zero, Int.toNat_one, Int.natCast_nonneg, Int.le_refl, Nat.le_refl, Nat.reduceAdd, Nat.reduceMul, Nat.reduceLeDiff, Nat.reduceLT, Int.reduceLE, Int.reduceLT, Int.reduceEq, Nat.reduceBEq, Nat.reduceEqDiff, Bool.not_true, Bool.not_false, Bool.and_false, Bool.false_and, Bool.or_true, Bool.true_or, Bool.or_false, Bool.false_or, call_funcH, c_drawH, c_loopH, gAll_F, gIf_F, pickB_true, pickB_false, Array.toList_append, List.cons_append, List.nil_append, opTmps, List.contains_cons, List.contains_nil, f.1, f.2.1, f.2.2, g.1, g.2.1, g.2.2, hne, hne2]) ?_
      rw [may_chain _ _ (by omega), show decide (j + 1 ≤ 40) = decide (j ≤ 39) by congr 1; apply propext; omega]
      exact ⟨⟨[], by simp⟩, .sc _, .inl rfl⟩
    simp only [go_sem, imp_self, implies_true, reduceCtorEq, false_imp_iff, true_imp_iff, decide_true, decide_false, Int.toNat_natCast, Int.toNat_zero, Int.toNat_one, Int.natCast_nonneg, Int.le_refl, Nat.le_refl, Nat.reduceAdd, Nat.reduceMul, Nat.reduceLeDiff, Nat.reduceLT, Int.reduceLE, Int.reduceLT, Int.reduceEq, Nat.reduceBEq, Nat.reduceEqDiff, Bool.not_true, Bool.not_false, Bool.and_false, Bool.false_and, Bool.or_true, Bool.true_or, Bool.or_false, Bool.false_or, call_funcH, c_drawH, c_loopH, gAll_F, gIf_F, pickB_true, pickB_false, Array.toList_append, List.cons_append, List.nil_append, opTmps, List.contains_cons, List.contains_nil, f.1, f.2.1, f.2.2, g.1, g.2.1, g.2.2, hne, hne2, beq_self_eq_true, hm, e200, hq, hq1, e40]
    refine ⟨?_, .sc (.bool true), fun _ => ?_, ?_⟩
    · simp only [go_sem, imp_self, implies_true, reduceCtorEq, false_imp_iff, true_imp_iff, decide_true, decide_false, Int.toNat_natCast, Int.toNat_zero, Int.toNat_one, Int.natCast_nonneg, Int.le_refl, Nat.le_refl, Nat.reduceAdd, Nat.reduceMul, Nat.reduceLeDiff, Nat.reduceLT, Int.reduceLE, Int.reduceLT, Int.reduceEq, Nat.reduceBEq, Nat.reduceEqDiff, Bool.not_true, Bool.not_false, Bool.and_false, Bool.false_and, Bool.or_true, Bool.true_or, Bool.or_false, Bool.false_or, call_funcH, c_drawH, c_loopH, gAll_F, gIf_F, pickB_true, pickB_false, Array.toList_append, List.cons_append, List.nil_append, opTmps, List.contains_cons, List.contains_nil]
    · simp only [go_sem, imp_self, implies_true, reduceCtorEq, false_imp_iff, true_imp_iff, decide_true, decide_false, Int.toNat_natCast, Int.toNat_zero, Int.toNat_one, Int.natCast_nonneg, Int.le_refl, Nat.le_refl, Nat.reduceAdd, Nat.reduceMul, Nat.reduceLeDiff, Nat.reduceLT, Int.reduceLE, Int.reduceLT, Int.reduceEq, Nat.reduceBEq, Nat.reduceEqDiff, Bool.not_true, Bool.not_false, Bool.and_false, Bool.false_and, Bool.or_true, Bool.true_or, Bool.or_false, Bool.false_or, call_funcH, c_drawH, c_loopH, gAll_F, gIf_F, pickB_true, pickB_false, Array.toList_append, List.cons_append, List.nil_append, opTmps, List.contains_cons, List.contains_nil, f.1, f.2.1, f.2.2, g.1, g.2.1, g.2.2, hne, hne2, beq_self_eq_true, hm, e200, hq, hq1, e40]
      refine lives_c ?_
      exact ⟨⟨[], by simp⟩, .sc _, .inl rfl⟩
    simp only [go_sem, imp_self, implies_true, reduceCtorEq, false_imp_iff, true_imp_iff, decide_true, decide_false, Int.toNat_natCast, Int.toNat_zero, Int.toNat_one, Int.natCast_nonneg, Int.le_refl, Nat.le_refl, Nat.reduceAdd, Nat.reduceMul, Nat.reduceLeDiff, Nat.reduceLT, Int.reduceLE, Int.reduceLT, Int.reduceEq, Nat.reduceBEq, Nat.reduceEqDiff, Bool.not_true, Bool.not_false, Bool.and_false, Bool.false_and, Bool.or_true, Bool.true_or, Bool.or_false, Bool.false_or, call_funcH, c_drawH, c_loopH, gAll_F, gIf_F, pickB_true, pickB_false, Array.toList_append, List.cons_append, List.nil_append, opTmps, List.contains_cons, List.contains_nil, f.1, f.2.1, f.2.2, g.1, g.2.1, g.2.2, hne, hne2, beq_self_eq_true, hm, e200, hq, hq1, e40]
    exact fin_scS (pre_app (pre_of (hB.old)) _) h

theorem typesMay_c (t : Ty) (wide deep : Int) (hw : -9223372036854775808 ≤ wide ∧ wide ≤ 9223372036854775807) (hd : -9223372036854775808 ≤ deep ∧ deep ≤ 9223372036854775807)
    (K : SV → St → Prop) (st : St) (h : K (.sc (.bool true)) st) : ACalls Tryd.prog 4 [tySV t, .sc (.int .i64 wide), .sc (.int .i64 deep)] K st := by
  have key : ∀ x : Int, -9223372036854775808 ≤ x ∧ x ≤ 9223372036854775807 → ∃ X : Int, 0 ≤ X ∧ (((x < 0) = True ∧ IntKind.i64.wrap (0 - IntKind.i64.wrap (x + 1)) = X) ∨ ((X < 0) = False ∧ x = X)) := by
    intro x hx
    by_cases h : x < 0
    · refine ⟨-(x + 1), by omega, .inl ⟨eq_true h, ?_⟩⟩
      rw [IntWalk.i64_in (x + 1) (by omega), IntWalk.i64_in _ (by omega)]; omega
    · exact ⟨x, by omega, .inr ⟨eq_false h, rfl⟩⟩
  obtain ⟨W, h1, h2⟩ := key wide hw
  obtain ⟨D, h3, h4⟩ := key deep hd
  exact typesMay_w t wide deep W D h2 h4 h1 h3 K st h

end Go.Proofs
