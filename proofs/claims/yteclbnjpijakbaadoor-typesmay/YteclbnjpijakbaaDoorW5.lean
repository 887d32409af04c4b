/- Cut: what it comes to. -/
import Derived.Test.YteclbnjpijakbaaDoorW4
set_option linter.unusedSimpArgs false
set_option maxRecDepth 8000
namespace Go.Proofs
open Go Go.AL

def cut8 (s : ByteArray) : ByteArray := if 8 < s.size then s.extract 0 8 else s

def cutT : Nat → Ty → Ty
  | 0, n => .mk n.v (cut8 n.name) []
  | d + 1, n => .mk n.v (cut8 n.name) ((n.args.take 5).map (cutT d))

def cutArgs : Nat → List Ty → List Ty
  | 0, _ => []
  | d + 1, l => (l.take 5).map (cutT d)

theorem cutT_eq (d : Nat) (n : Ty) : cutT d n = .mk n.v (cut8 n.name) (cutArgs d n.args) := by
  cases d <;> rfl

theorem get_app1 (st : St) (a b : Ob) : (st ++ [a, b])[st.length + 1]? = some b := by simp

def cutN (d : Nat) (n : Nat) : Nat := if d = 0 then 0 else min n 5

theorem cutArgs_len (d : Nat) (l : List Ty) : (cutArgs d l).length = cutN d l.length := by
  cases d <;> simp [cutArgs, cutN]; omega

theorem app3 {n : Nat} (h : n ≤ 1000000) : AppOk Tryd.prog 23 23 3 n := appOk_of Tryd.aelem23 Tryd.aelem23 Tryd.asize25 Tryd.azero25 rfl Tryd.abytes25 (by omega) h

set_option maxHeartbeats 4000000 in
theorem cut_c : ∀ (d : Nat), d ≤ 100 → ∀ (n : Ty) (K : SV → St → Prop) (st : St), K (tySV (cutT d n)) st → ACalls Tryd.prog 9 [tySV n, .sc (.int .i64 d)] K st := by
  intro d
  induction d using Nat.strongRecOn with
  | _ d ih =>
    intro hd n K st h
    rw [cutT_eq, tySV_eq] at h
    refine acalls_le ?_
    refine acalls_go_pure [] Tryd.func9 rfl Tryd.results9 Tryd.ntmps9 ?_
    rw [tySV_eq]
    simp only [go_sem, imp_self, implies_true, reduceCtorEq, false_imp_iff, true_imp_iff, decide_true, decide_false, Int.toNat_natCast, Int.toNat_zero, Int.toNat_one, Int.natCast_nonneg, Int.le_refl, Nat.le_refl, Nat.reduceAdd, Nat.reduceMul, Nat.reduceLeDiff, Nat.reduceLT, Int.reduceLE, Int.reduceLT, Int.reduceEq, Nat.reduceBEq, Nat.reduceEqDiff, Bool.not_true, Bool.not_false, Bool.and_false, Bool.false_and, Bool.or_true, Bool.true_or, Bool.or_false, Bool.false_or, call_funcH, c_drawH, c_loopH, gAll_F, gIf_F, pickB_true, pickB_false, Array.toList_append, List.cons_append, List.nil_append, opTmps, List.contains_cons, List.contains_nil]
    refine ⟨fun hs => ⟨⟨by omega, by simp only [decide_eq_true_eq] at hs; omega⟩, ?_⟩, fun hs => ?_⟩
    all_goals
      refine awp_ownC (st.length + 1) 2 3 0 (get_app1 st _ _) (by simp) rfl ?_
      simp only [go_sem, imp_self, implies_true, reduceCtorEq, false_imp_iff, true_imp_iff, decide_true, decide_false, Int.toNat_natCast, Int.toNat_zero, Int.toNat_one, Int.natCast_nonneg, Int.le_refl, Nat.le_refl, Nat.reduceAdd, Nat.reduceMul, Nat.reduceLeDiff, Nat.reduceLT, Int.reduceLE, Int.reduceLT, Int.reduceEq, Nat.reduceBEq, Nat.reduceEqDiff, Bool.not_true, Bool.not_false, Bool.and_false, Bool.false_and, Bool.or_true, Bool.true_or, Bool.or_false, Bool.false_or, call_funcH, c_drawH, c_loopH, gAll_F, gIf_F, pickB_true, pickB_false, Array.toList_append, List.cons_append, List.nil_append, opTmps, List.contains_cons, List.contains_nil]
      refine awp_rounds [] (fun m e s => ∃ (k : Nat) (t : ByteArray), k + m = cutN d n.args.length ∧ t = cut8 n.name ∧ e = [.any, .sc (.int .i64 d), .ref [.sc (.int .i64 n.v), .sc (.string n.name), .slice .imm 3 (n.args.map tySV)], .any, .ptr st.length 0, .ptr (st.length + 1) 0, .sc (.int .i64 k), .any, .any, .any, .any, .any, .any, .any, .any, .any, .any, .any, .any, .any, .any, .any, .any, .any, .any, .any, .any, .any, .any, .any, .any, .any, .any, .any, .any, .any, .any, .any, .any, .any, .any, .any, .any, .any, .any, .any, .any, .any, .any] ∧
        s = st ++ [.cells [.sc (.int .i64 0), .sc (.string ⟨#[]⟩), .slice .full 0 []], .cells [.sc (.int .i64 n.v), .sc (.string t), .slice (.own (st.length + 2) k) 3 (((cutArgs d n.args).take k).map tySV)], .tok k]) (n := cutN d n.args.length) ?_ ⟨0, _, by omega, ?_, rfl, rfl⟩ ?_
      · repeat (first | exact leEnv_nil | refine leEnv_any _ ?_ | refine leEnv_same _ ?_ | refine leEnv_norm _ ?_)
      · unfold cut8; first | rw [if_pos (by simp only [decide_eq_true_eq] at hs; omega)]; rfl | rw [if_neg (by simp only [decide_eq_false_iff_not] at hs; omega)]
      rintro m e s ⟨k, t, hkm, ht, rfl, rfl⟩
      simp only [go_sem, imp_self, implies_true, reduceCtorEq, false_imp_iff, true_imp_iff, decide_true, decide_false, Int.toNat_natCast, Int.toNat_zero, Int.toNat_one, Int.natCast_nonneg, Int.le_refl, Nat.le_refl, Nat.reduceAdd, Nat.reduceMul, Nat.reduceLeDiff, Nat.reduceLT, Int.reduceLE, Int.reduceLT, Int.reduceEq, Nat.reduceBEq, Nat.reduceEqDiff, Bool.not_true, Bool.not_false, Bool.and_false, Bool.false_and, Bool.or_true, Bool.true_or, Bool.or_false, Bool.false_or, call_funcH, c_drawH, c_loopH, gAll_F, gIf_F, pickB_true, pickB_false, Array.toList_append, List.cons_append, List.nil_append, opTmps, List.contains_cons, List.contains_nil]
      refine ⟨fun hc => ?_, fun hc => ?_⟩
      · simp only [Bool.and_eq_true, decide_eq_true_eq] at hc
        obtain ⟨⟨c1, c2⟩, c3⟩ := hc
        have hlt : k < n.args.length := by omega
        obtain ⟨d', rfl⟩ : ∃ d', d = d' + 1 := ⟨d - 1, by omega⟩
        have hw : IntKind.i64.wrap ((k : Int) + 1) = ((k + 1 : Nat) : Int) := by rw [IntWalk.i64_in _ (by omega)]; rfl
        have hw2 : IntKind.i64.wrap (((d' + 1 : Nat) : Int) - 1) = (d' : Int) := by rw [IntWalk.i64_in _ (by omega)]; omega
        have hN : k < cutN (d' + 1) n.args.length := by simp [cutN]; omega
        have hel : (cutArgs (d' + 1) n.args).getD k default = cutT d' (n.args.getD k default) := by
          simp [cutArgs, List.getD_eq_getElem?_getD, List.getElem?_take, show k < 5 by omega, hlt]
        have hts : ((cutArgs (d' + 1) n.args).take (k + 1)).map tySV = ((cutArgs (d' + 1) n.args).take k).map tySV ++ [tySV (cutT d' (n.args.getD k default))] := by
          rw [take_snocT _ (by rw [cutArgs_len]; exact hN), hel]; simp
        have hlen : ((cutArgs (d' + 1) n.args).take k).length + 1 ≤ 1000000 := by rw [List.length_take]; omega
        refine awp_drawE [] [11, 13] [0, 1, 2, 3, 4, 5, 6, 7, 8, 9, 10] (fun _ => True) Tryd.mixed rfl rfl rfl rfl trivial ?_
        refine dE_early rfl rfl (.ptr (st.length + 1) 2) (by simp only [go_sem, imp_self, implies_true, reduceCtorEq, false_imp_iff, true_imp_iff, decide_true, decide_false, Int.toNat_natCast, Int.toNat_zero, Int.toNat_one, Int.natCast_nonneg, Int.le_refl, Nat.le_refl, Nat.reduceAdd, Nat.reduceMul, Nat.reduceLeDiff, Nat.reduceLT, Int.reduceLE, Int.reduceLT, Int.reduceEq, Nat.reduceBEq, Nat.reduceEqDiff, Bool.not_true, Bool.not_false, Bool.and_false, Bool.false_and, Bool.or_true, Bool.true_or, Bool.or_false, Bool.false_or, call_funcH, c_drawH, c_loopH, gAll_F, gIf_F, pickB_true, pickB_false, Array.toList_append, List.cons_append, List.nil_append, opTmps, List.contains_cons, List.contains_nil]) ?_
        refine dE_early rfl rfl (.slice (.own (st.length + 2) k) 3 (((cutArgs (d' + 1) n.args).take k).map tySV)) (by simp only [go_sem, imp_self, implies_true, reduceCtorEq, false_imp_iff, true_imp_iff, decide_true, decide_false, Int.toNat_natCast, Int.toNat_zero, Int.toNat_one, Int.natCast_nonneg, Int.le_refl, Nat.le_refl, Nat.reduceAdd, Nat.reduceMul, Nat.reduceLeDiff, Nat.reduceLT, Int.reduceLE, Int.reduceLT, Int.reduceEq, Nat.reduceBEq, Nat.reduceEqDiff, Bool.not_true, Bool.not_false, Bool.and_false, Bool.false_and, Bool.or_true, Bool.true_or, Bool.or_false, Bool.false_or, call_funcH, c_drawH, c_loopH, gAll_F, gIf_F, pickB_true, pickB_false, Array.toList_append, List.cons_append, List.nil_append, opTmps, List.contains_cons, List.contains_nil]) ?_
        refine dE_early rfl rfl (.ref [.slice .imm 3 (n.args.map tySV)]) (by simp only [go_sem, imp_self, implies_true, reduceCtorEq, false_imp_iff, true_imp_iff, decide_true, decide_false, Int.toNat_natCast, Int.toNat_zero, Int.toNat_one, Int.natCast_nonneg, Int.le_refl, Nat.le_refl, Nat.reduceAdd, Nat.reduceMul, Nat.reduceLeDiff, Nat.reduceLT, Int.reduceLE, Int.reduceLT, Int.reduceEq, Nat.reduceBEq, Nat.reduceEqDiff, Bool.not_true, Bool.not_false, Bool.and_false, Bool.false_and, Bool.or_true, Bool.true_or, Bool.or_false, Bool.false_or, call_funcH, c_drawH, c_loopH, gAll_F, gIf_F, pickB_true, pickB_false, Array.toList_append, List.cons_append, List.nil_append, opTmps, List.contains_cons, List.contains_nil]) ?_
        refine dE_early rfl rfl (.slice .imm 3 (n.args.map tySV)) (by simp only [go_sem, imp_self, implies_true, reduceCtorEq, false_imp_iff, true_imp_iff, decide_true, decide_false, Int.toNat_natCast, Int.toNat_zero, Int.toNat_one, Int.natCast_nonneg, Int.le_refl, Nat.le_refl, Nat.reduceAdd, Nat.reduceMul, Nat.reduceLeDiff, Nat.reduceLT, Int.reduceLE, Int.reduceLT, Int.reduceEq, Nat.reduceBEq, Nat.reduceEqDiff, Bool.not_true, Bool.not_false, Bool.and_false, Bool.false_and, Bool.or_true, Bool.true_or, Bool.or_false, Bool.false_or, call_funcH, c_drawH, c_loopH, gAll_F, gIf_F, pickB_true, pickB_false, Array.toList_append, List.cons_append, List.nil_append, opTmps, List.contains_cons, List.contains_nil]) ?_
        refine dE_early rfl rfl (.sc (.int .i64 k)) (by simp only [go_sem, imp_self, implies_true, reduceCtorEq, false_imp_iff, true_imp_iff, decide_true, decide_false, Int.toNat_natCast, Int.toNat_zero, Int.toNat_one, Int.natCast_nonneg, Int.le_refl, Nat.le_refl, Nat.reduceAdd, Nat.reduceMul, Nat.reduceLeDiff, Nat.reduceLT, Int.reduceLE, Int.reduceLT, Int.reduceEq, Nat.reduceBEq, Nat.reduceEqDiff, Bool.not_true, Bool.not_false, Bool.and_false, Bool.false_and, Bool.or_true, Bool.true_or, Bool.or_false, Bool.false_or, call_funcH, c_drawH, c_loopH, gAll_F, gIf_F, pickB_true, pickB_false, Array.toList_append, List.cons_append, List.nil_append, opTmps, List.contains_cons, List.contains_nil]) ?_
        refine dE_early rfl rfl (.ref (tySV (n.args.getD k default)).cells) (by simp only [go_sem, imp_self, implies_true, reduceCtorEq, false_imp_iff, true_imp_iff, decide_true, decide_false, Int.toNat_natCast, Int.toNat_zero, Int.toNat_one, Int.natCast_nonneg, Int.le_refl, Nat.le_refl, Nat.reduceAdd, Nat.reduceMul, Nat.reduceLeDiff, Nat.reduceLT, Int.reduceLE, Int.reduceLT, Int.reduceEq, Nat.reduceBEq, Nat.reduceEqDiff, Bool.not_true, Bool.not_false, Bool.and_false, Bool.false_and, Bool.or_true, Bool.true_or, Bool.or_false, Bool.false_or, call_funcH, c_drawH, c_loopH, gAll_F, gIf_F, pickB_true, pickB_false, Array.toList_append, List.cons_append, List.nil_append, opTmps, List.contains_cons, List.contains_nil, c1, getD_mapT _ hlt]) ?_
        refine dE_early rfl rfl (tySV (n.args.getD k default)) (by simp only [go_sem, imp_self, implies_true, reduceCtorEq, false_imp_iff, true_imp_iff, decide_true, decide_false, Int.toNat_natCast, Int.toNat_zero, Int.toNat_one, Int.natCast_nonneg, Int.le_refl, Nat.le_refl, Nat.reduceAdd, Nat.reduceMul, Nat.reduceLeDiff, Nat.reduceLT, Int.reduceLE, Int.reduceLT, Int.reduceEq, Nat.reduceBEq, Nat.reduceEqDiff, Bool.not_true, Bool.not_false, Bool.and_false, Bool.false_and, Bool.or_true, Bool.true_or, Bool.or_false, Bool.false_or, call_funcH, c_drawH, c_loopH, gAll_F, gIf_F, pickB_true, pickB_false, Array.toList_append, List.cons_append, List.nil_append, opTmps, List.contains_cons, List.contains_nil]) ?_
        refine dE_early rfl rfl (.sc (.int .i64 ((d' + 1 : Nat) : Int))) (by simp only [go_sem, imp_self, implies_true, reduceCtorEq, false_imp_iff, true_imp_iff, decide_true, decide_false, Int.toNat_natCast, Int.toNat_zero, Int.toNat_one, Int.natCast_nonneg, Int.le_refl, Nat.le_refl, Nat.reduceAdd, Nat.reduceMul, Nat.reduceLeDiff, Nat.reduceLT, Int.reduceLE, Int.reduceLT, Int.reduceEq, Nat.reduceBEq, Nat.reduceEqDiff, Bool.not_true, Bool.not_false, Bool.and_false, Bool.false_and, Bool.or_true, Bool.true_or, Bool.or_false, Bool.false_or, call_funcH, c_drawH, c_loopH, gAll_F, gIf_F, pickB_true, pickB_false, Array.toList_append, List.cons_append, List.nil_append, opTmps, List.contains_cons, List.contains_nil]) ?_
        refine dE_early rfl rfl (.sc (.int .i64 (d' : Int))) (by simp only [go_sem, imp_self, implies_true, reduceCtorEq, false_imp_iff, true_imp_iff, decide_true, decide_false, Int.toNat_natCast, Int.toNat_zero, Int.toNat_one, Int.natCast_nonneg, Int.le_refl, Nat.le_refl, Nat.reduceAdd, Nat.reduceMul, Nat.reduceLeDiff, Nat.reduceLT, Int.reduceLE, Int.reduceLT, Int.reduceEq, Nat.reduceBEq, Nat.reduceEqDiff, Bool.not_true, Bool.not_false, Bool.and_false, Bool.false_and, Bool.or_true, Bool.true_or, Bool.or_false, Bool.false_or, call_funcH, c_drawH, c_loopH, gAll_F, gIf_F, pickB_true, pickB_false, Array.toList_append, List.cons_append, List.nil_append, opTmps, List.contains_cons, List.contains_nil, hw2]) ?_
        refine dE_early rfl rfl (tySV (cutT d' (n.args.getD k default))) ?_ ?_
        · simp only [go_sem, imp_self, implies_true, reduceCtorEq, false_imp_iff, true_imp_iff, decide_true, decide_false, Int.toNat_natCast, Int.toNat_zero, Int.toNat_one, Int.natCast_nonneg, Int.le_refl, Nat.le_refl, Nat.reduceAdd, Nat.reduceMul, Nat.reduceLeDiff, Nat.reduceLT, Int.reduceLE, Int.reduceLT, Int.reduceEq, Nat.reduceBEq, Nat.reduceEqDiff, Bool.not_true, Bool.not_false, Bool.and_false, Bool.false_and, Bool.or_true, Bool.true_or, Bool.or_false, Bool.false_or, call_funcH, c_drawH, c_loopH, gAll_F, gIf_F, pickB_true, pickB_false, Array.toList_append, List.cons_append, List.nil_append, opTmps, List.contains_cons, List.contains_nil]
          refine ⟨_, ?_, rfl⟩
          simp only [go_sem, imp_self, implies_true, reduceCtorEq, false_imp_iff, true_imp_iff, decide_true, decide_false, Int.toNat_natCast, Int.toNat_zero, Int.toNat_one, Int.natCast_nonneg, Int.le_refl, Nat.le_refl, Nat.reduceAdd, Nat.reduceMul, Nat.reduceLeDiff, Nat.reduceLT, Int.reduceLE, Int.reduceLT, Int.reduceEq, Nat.reduceBEq, Nat.reduceEqDiff, Bool.not_true, Bool.not_false, Bool.and_false, Bool.false_and, Bool.or_true, Bool.true_or, Bool.or_false, Bool.false_or, call_funcH, c_drawH, c_loopH, gAll_F, gIf_F, pickB_true, pickB_false, Array.toList_append, List.cons_append, List.nil_append, opTmps, List.contains_cons, List.contains_nil]
          exact ih d' (by omega) (by omega) _ _ _ ⟨⟨[], by simp⟩, ids_ty _ _, .inl rfl⟩
        refine dE_early rfl rfl (.slice .full 3 [tySV (cutT d' (n.args.getD k default))]) ?_ ?_
        · simp only [go_sem, imp_self, implies_true, reduceCtorEq, false_imp_iff, true_imp_iff, decide_true, decide_false, Int.toNat_natCast, Int.toNat_zero, Int.toNat_one, Int.natCast_nonneg, Int.le_refl, Nat.le_refl, Nat.reduceAdd, Nat.reduceMul, Nat.reduceLeDiff, Nat.reduceLT, Int.reduceLE, Int.reduceLT, Int.reduceEq, Nat.reduceBEq, Nat.reduceEqDiff, Bool.not_true, Bool.not_false, Bool.and_false, Bool.false_and, Bool.or_true, Bool.true_or, Bool.or_false, Bool.false_or, call_funcH, c_drawH, c_loopH, gAll_F, gIf_F, pickB_true, pickB_false, Array.toList_append, List.cons_append, List.nil_append, opTmps, List.contains_cons, List.contains_nil]
          refine ⟨_, ?_, rfl⟩
          simp only [go_sem, imp_self, implies_true, reduceCtorEq, false_imp_iff, true_imp_iff, decide_true, decide_false, Int.toNat_natCast, Int.toNat_zero, Int.toNat_one, Int.natCast_nonneg, Int.le_refl, Nat.le_refl, Nat.reduceAdd, Nat.reduceMul, Nat.reduceLeDiff, Nat.reduceLT, Int.reduceLE, Int.reduceLT, Int.reduceEq, Nat.reduceBEq, Nat.reduceEqDiff, Bool.not_true, Bool.not_false, Bool.and_false, Bool.false_and, Bool.or_true, Bool.true_or, Bool.or_false, Bool.false_or, call_funcH, c_drawH, c_loopH, gAll_F, gIf_F, pickB_true, pickB_false, Array.toList_append, List.cons_append, List.nil_append, opTmps, List.contains_cons, List.contains_nil]
          refine ⟨⟨[], by simp⟩, ?_, .inl rfl⟩
          exact ids_tys _ _ (.inr rfl) [cutT d' (n.args.getD k default)]
        refine dE_turn rfl (.slice (.own (st.length + 2) (k + 1)) 3 (((cutArgs (d' + 1) n.args).take (k + 1)).map tySV)) (st ++ [.cells [.sc (.int .i64 0), .sc (.string ⟨#[]⟩), .slice .full 0 []], .cells [.sc (.int .i64 n.v), .sc (.string t), .slice (.own (st.length + 2) k) 3 (((cutArgs (d' + 1) n.args).take k).map tySV)], .tok (k + 1)]) ?_ rfl trivial ?_
        · simp only [go_sem, imp_self, implies_true, reduceCtorEq, false_imp_iff, true_imp_iff, decide_true, decide_false, Int.toNat_natCast, Int.toNat_zero, Int.toNat_one, Int.natCast_nonneg, Int.le_refl, Nat.le_refl, Nat.reduceAdd, Nat.reduceMul, Nat.reduceLeDiff, Nat.reduceLT, Int.reduceLE, Int.reduceLT, Int.reduceEq, Nat.reduceBEq, Nat.reduceEqDiff, Bool.not_true, Bool.not_false, Bool.and_false, Bool.false_and, Bool.or_true, Bool.true_or, Bool.or_false, Bool.false_or, call_funcH, c_drawH, c_loopH, gAll_F, gIf_F, pickB_true, pickB_false, Array.toList_append, List.cons_append, List.nil_append, opTmps, List.contains_cons, List.contains_nil]
          exact ⟨app3 hlen, by rw [hts]⟩
        refine dE_pure rfl rfl (.ptr (st.length + 1) 2) (fun s _ => by simp only [go_sem, imp_self, implies_true, reduceCtorEq, false_imp_iff, true_imp_iff, decide_true, decide_false, Int.toNat_natCast, Int.toNat_zero, Int.toNat_one, Int.natCast_nonneg, Int.le_refl, Nat.le_refl, Nat.reduceAdd, Nat.reduceMul, Nat.reduceLeDiff, Nat.reduceLT, Int.reduceLE, Int.reduceLT, Int.reduceEq, Nat.reduceBEq, Nat.reduceEqDiff, Bool.not_true, Bool.not_false, Bool.and_false, Bool.false_and, Bool.or_true, Bool.true_or, Bool.or_false, Bool.false_or, call_funcH, c_drawH, c_loopH, gAll_F, gIf_F, pickB_true, pickB_false, Array.toList_append, List.cons_append, List.nil_append, opTmps, List.contains_cons, List.contains_nil]) ?_
        refine dE_turn rfl .any (st ++ [.cells [.sc (.int .i64 0), .sc (.string ⟨#[]⟩), .slice .full 0 []], .cells [.sc (.int .i64 n.v), .sc (.string t), .slice (.own (st.length + 2) (k + 1)) 3 (((cutArgs (d' + 1) n.args).take (k + 1)).map tySV)], .tok (k + 1)]) ?_ rfl trivial ?_
        · simp only [go_sem, imp_self, implies_true, reduceCtorEq, false_imp_iff, true_imp_iff, decide_true, decide_false, Int.toNat_natCast, Int.toNat_zero, Int.toNat_one, Int.natCast_nonneg, Int.le_refl, Nat.le_refl, Nat.reduceAdd, Nat.reduceMul, Nat.reduceLeDiff, Nat.reduceLT, Int.reduceLE, Int.reduceLT, Int.reduceEq, Nat.reduceBEq, Nat.reduceEqDiff, Bool.not_true, Bool.not_false, Bool.and_false, Bool.false_and, Bool.or_true, Bool.true_or, Bool.or_false, Bool.false_or, call_funcH, c_drawH, c_loopH, gAll_F, gIf_F, pickB_true, pickB_false, Array.toList_append, List.cons_append, List.nil_append, opTmps, List.contains_cons, List.contains_nil]
        refine dE_end ?_
        simp only [go_sem, imp_self, implies_true, reduceCtorEq, false_imp_iff, true_imp_iff, decide_true, decide_false, Int.toNat_natCast, Int.toNat_zero, Int.toNat_one, Int.natCast_nonneg, Int.le_refl, Nat.le_refl, Nat.reduceAdd, Nat.reduceMul, Nat.reduceLeDiff, Nat.reduceLT, Int.reduceLE, Int.reduceLT, Int.reduceEq, Nat.reduceBEq, Nat.reduceEqDiff, Bool.not_true, Bool.not_false, Bool.and_false, Bool.false_and, Bool.or_true, Bool.true_or, Bool.or_false, Bool.false_or, call_funcH, c_drawH, c_loopH, gAll_F, gIf_F, pickB_true, pickB_false, Array.toList_append, List.cons_append, List.nil_append, opTmps, List.contains_cons, List.contains_nil, hw]
        refine ⟨m - 1, _, by omega, ?_, k + 1, _, by omega, ht, rfl, rfl⟩
        repeat (first | exact leEnv_nil | refine leEnv_any _ ?_ | refine leEnv_same _ ?_ | refine leEnv_norm _ ?_)
      · have hk : k = cutN d n.args.length := by
          have e : ¬ (k < cutN d n.args.length) := by
            intro hlt
            have : (decide ((k : Int) < (n.args.length : Int)) && decide ((k : Int) < 5) && decide ((0 : Int) < (d : Int))) = true := by
              unfold cutN at hlt
              split at hlt
              · omega
              · simp only [Bool.and_eq_true, decide_eq_true_eq]; omega
            rw [this] at hc; cases hc
          omega
        have htk : (cutArgs d n.args).take k = cutArgs d n.args := List.take_of_length_le (by rw [cutArgs_len]; omega)
        rw [htk]
        refine ⟨⟨_, rfl⟩, ?_, _, ?_, h⟩
        · simp only [norm, List.map_cons, List.map_nil, norm1, ids_agg, List.forall_mem_cons, ids_sc, true_and]
          exact ⟨ids_tys _ _ (.inl rfl) _, fun x hx => by cases hx⟩
        · subst ht
          exact SVle.refl _

end Go.Proofs
