/- Cut, few: what they come to. -/
import Derived.Test.YtjkhpblfgcnpaaaW21
import Derived.Test.YtjkhpblfgcnpaaaA6
set_option linter.unusedSimpArgs false
set_option maxRecDepth 8000
namespace Go.Proofs
open Go Go.AL

def cut8 (s : ByteArray) : ByteArray := if 8 < s.size then s.extract 0 8 else s

def cutF : Nat → Nd → Nd
  | 0, n => .mk n.kind (cut8 n.text) n.number 0 [] []
  | d + 1, n => .mk n.kind (cut8 n.text) n.number 0 [] ((n.kids.take 5).map (cutF d))

/-- The first so many rows, three deep, of at most 9 patterns each. -/
def fewF (most : Nat) (acc : List Nd) : List Nd → List Nd
  | [] => acc
  | x :: r => if acc.length < most then fewF most (if cnt (cutF 3 x) ≤ 9 then acc ++ [cutF 3 x] else acc) r else acc

def cutKids : Nat → List Nd → List Nd
  | 0, _ => []
  | d + 1, l => (l.take 5).map (cutF d)

theorem cutF_eq (d : Nat) (n : Nd) : cutF d n = .mk n.kind (cut8 n.text) n.number 0 [] (cutKids d n.kids) := by
  cases d <;> rfl

theorem get_app1 (st : St) (a b : Ob) : (st ++ [a, b])[st.length + 1]? = some b := by simp

def cutN (d : Nat) (n : Nat) : Nat := if d = 0 then 0 else min n 5

theorem cutKids_len (d : Nat) (l : List Nd) : (cutKids d l).length = cutN d l.length := by
  cases d <;> simp [cutKids, cutN]; omega

set_option maxHeartbeats 4000000 in
theorem cut_c : ∀ (d : Nat), d ≤ 100 → ∀ (n : Nd) (K : SV → St → Prop) (st : St), K (nodeSV (cutF d n)) st → ACalls Try.prog 17 [nodeSV n, .sc (.int .i64 d)] K st := by
  intro d
  induction d using Nat.strongRecOn with
  | _ d ih =>
    intro hd n K st h
    rw [cutF_eq, nodeSV_eq] at h
    refine acalls_le ?_
    refine acalls_go_pure [] Try.func17 rfl Try.results17 Try.ntmps17 ?_
    rw [nodeSV_eq]
    have h8 : (8 < (n.text.size : Int)) → ((0 : Int) ≤ 8 ∧ (8 : Int) ≤ (n.text.size : Int)) := fun h => ⟨by omega, by omega⟩
    simp only [go_sem, imp_self, implies_true, reduceCtorEq, false_imp_iff, true_imp_iff, decide_true, decide_false, Int.toNat_natCast, Int.toNat_zero, Int.toNat_one, Int.natCast_nonneg, Int.le_refl, Nat.le_refl, Nat.reduceAdd, Nat.reduceMul, Nat.reduceLeDiff, Nat.reduceLT, Int.reduceLE, Int.reduceLT, Nat.reduceBEq, Nat.reduceEqDiff, Bool.not_true, Bool.not_false, Bool.and_false, Bool.false_and, Bool.or_true, Bool.true_or, Bool.or_false, Bool.false_or, call_funcH, c_drawH, c_loopH, gAll_F, gIf_F, pickB_true, pickB_false, Array.toList_append, List.cons_append, List.nil_append, opTmps, List.contains_cons, List.contains_nil]
    refine ⟨fun hs => ⟨⟨by omega, by simp only [decide_eq_true_eq] at hs; omega⟩, ?_⟩, fun hs => ?_⟩
    all_goals
      refine awp_ownC (st.length + 1) 5 6 0 (get_app1 st _ _) (by simp) rfl ?_
      simp only [go_sem, imp_self, implies_true, reduceCtorEq, false_imp_iff, true_imp_iff, decide_true, decide_false, Int.toNat_natCast, Int.toNat_zero, Int.toNat_one, Int.natCast_nonneg, Int.le_refl, Nat.le_refl, Nat.reduceAdd, Nat.reduceMul, Nat.reduceLeDiff, Nat.reduceLT, Int.reduceLE, Int.reduceLT, Nat.reduceBEq, Nat.reduceEqDiff, Bool.not_true, Bool.not_false, Bool.and_false, Bool.false_and, Bool.or_true, Bool.true_or, Bool.or_false, Bool.false_or, call_funcH, c_drawH, c_loopH, gAll_F, gIf_F, pickB_true, pickB_false, Array.toList_append, List.cons_append, List.nil_append, opTmps, List.contains_cons, List.contains_nil]
      refine awp_rounds [] (fun m e s => ∃ (k : Nat) (t : ByteArray), k + m = cutN d n.kids.length ∧ t = cut8 n.text ∧ e = [.any, .sc (.int .i64 d), .ref [.sc (.int .i64 n.kind), .sc (.string n.text), .sc (.int .i64 n.number), .sc (.int .i64 n.at_), .slice .imm 1 (n.names.map fun s => .sc (.string s)), .slice .imm 6 (n.kids.map nodeSV)], .any, .ptr st.length 0, .ptr (st.length + 1) 0, .sc (.int .i64 k), .any, .any, .any, .any, .any, .any, .any, .any, .any, .any, .any, .any, .any, .any, .any, .any, .any, .any, .any, .any, .any, .any, .any, .any, .any, .any, .any, .any, .any, .any, .any, .any, .any, .any, .any, .any, .any, .any, .any, .any, .any, .any, .any, .any] ∧
        s = st ++ [.cells [.sc (.int .i64 0), .sc (.string ⟨#[]⟩), .sc (.int .i64 0), .sc (.int .i64 0), .slice .full 0 [], .slice .full 0 []], .cells [.sc (.int .i64 n.kind), .sc (.string t), .sc (.int .i64 n.number), .sc (.int .i64 0), .slice .full 0 [], .slice (.own (st.length + 2) k) 6 (((cutKids d n.kids).take k).map nodeSV)], .tok k]) (n := cutN d n.kids.length) ?_ ⟨0, _, by omega, ?_, rfl, rfl⟩ ?_
      · repeat (first | exact leEnv_nil | refine leEnv_any _ ?_ | refine leEnv_same _ ?_ | refine leEnv_norm _ ?_)
      · unfold cut8; first | rw [if_pos (by simp only [decide_eq_true_eq] at hs; omega)]; rfl | rw [if_neg (by simp only [decide_eq_false_iff_not] at hs; omega)]
      rintro m e s ⟨k, t, hkm, ht, rfl, rfl⟩
      simp only [go_sem, imp_self, implies_true, reduceCtorEq, false_imp_iff, true_imp_iff, decide_true, decide_false, Int.toNat_natCast, Int.toNat_zero, Int.toNat_one, Int.natCast_nonneg, Int.le_refl, Nat.le_refl, Nat.reduceAdd, Nat.reduceMul, Nat.reduceLeDiff, Nat.reduceLT, Int.reduceLE, Int.reduceLT, Nat.reduceBEq, Nat.reduceEqDiff, Bool.not_true, Bool.not_false, Bool.and_false, Bool.false_and, Bool.or_true, Bool.true_or, Bool.or_false, Bool.false_or, call_funcH, c_drawH, c_loopH, gAll_F, gIf_F, pickB_true, pickB_false, Array.toList_append, List.cons_append, List.nil_append, opTmps, List.contains_cons, List.contains_nil]
      refine ⟨fun hc => ?_, fun hc => ?_⟩
      · simp only [Bool.and_eq_true, decide_eq_true_eq] at hc
        obtain ⟨⟨c1, c2⟩, c3⟩ := hc
        have hlt : k < n.kids.length := by omega
        obtain ⟨d', rfl⟩ : ∃ d', d = d' + 1 := ⟨d - 1, by omega⟩
        have hw := wrap_succ k (by omega)
        have hw2 : IntKind.i64.wrap (((d' + 1 : Nat) : Int) - 1) = (d' : Int) := by rw [IntWalk.i64_in _ (by omega)]; omega
        have hN : k < cutN (d' + 1) n.kids.length := by simp [cutN]; omega
        have hel : (cutKids (d' + 1) n.kids).getD k default = cutF d' (n.kids.getD k default) := by
          simp [cutKids, List.getD_eq_getElem?_getD, List.getElem?_take, show k < 5 by omega, hlt]
        have hts : ((cutKids (d' + 1) n.kids).take (k + 1)).map nodeSV = ((cutKids (d' + 1) n.kids).take k).map nodeSV ++ [nodeSV (cutF d' (n.kids.getD k default))] := by
          rw [take_snoc' _ (by rw [cutKids_len]; exact hN), hel]; simp
        have hlen : ((cutKids (d' + 1) n.kids).take k).length + 1 ≤ 1000000 := by rw [List.length_take]; omega
        refine awp_drawE [] [11, 13] [0, 1, 2, 3, 4, 5, 6, 7, 8, 9, 10] (fun _ => True) Try.mixed rfl rfl rfl rfl trivial ?_
        refine dE_early rfl rfl (.ptr (st.length + 1) 5) (by simp only [go_sem, imp_self, implies_true, reduceCtorEq, false_imp_iff, true_imp_iff, decide_true, decide_false, Int.toNat_natCast, Int.toNat_zero, Int.toNat_one, Int.natCast_nonneg, Int.le_refl, Nat.le_refl, Nat.reduceAdd, Nat.reduceMul, Nat.reduceLeDiff, Nat.reduceLT, Int.reduceLE, Int.reduceLT, Nat.reduceBEq, Nat.reduceEqDiff, Bool.not_true, Bool.not_false, Bool.and_false, Bool.false_and, Bool.or_true, Bool.true_or, Bool.or_false, Bool.false_or, call_funcH, c_drawH, c_loopH, gAll_F, gIf_F, pickB_true, pickB_false, Array.toList_append, List.cons_append, List.nil_append, opTmps, List.contains_cons, List.contains_nil]) ?_
        refine dE_early rfl rfl (.slice (.own (st.length + 2) k) 6 (((cutKids (d' + 1) n.kids).take k).map nodeSV)) (by simp only [go_sem, imp_self, implies_true, reduceCtorEq, false_imp_iff, true_imp_iff, decide_true, decide_false, Int.toNat_natCast, Int.toNat_zero, Int.toNat_one, Int.natCast_nonneg, Int.le_refl, Nat.le_refl, Nat.reduceAdd, Nat.reduceMul, Nat.reduceLeDiff, Nat.reduceLT, Int.reduceLE, Int.reduceLT, Nat.reduceBEq, Nat.reduceEqDiff, Bool.not_true, Bool.not_false, Bool.and_false, Bool.false_and, Bool.or_true, Bool.true_or, Bool.or_false, Bool.false_or, call_funcH, c_drawH, c_loopH, gAll_F, gIf_F, pickB_true, pickB_false, Array.toList_append, List.cons_append, List.nil_append, opTmps, List.contains_cons, List.contains_nil]) ?_
        refine dE_early rfl rfl (.ref [.slice .imm 6 (n.kids.map nodeSV)]) (by simp only [go_sem, imp_self, implies_true, reduceCtorEq, false_imp_iff, true_imp_iff, decide_true, decide_false, Int.toNat_natCast, Int.toNat_zero, Int.toNat_one, Int.natCast_nonneg, Int.le_refl, Nat.le_refl, Nat.reduceAdd, Nat.reduceMul, Nat.reduceLeDiff, Nat.reduceLT, Int.reduceLE, Int.reduceLT, Nat.reduceBEq, Nat.reduceEqDiff, Bool.not_true, Bool.not_false, Bool.and_false, Bool.false_and, Bool.or_true, Bool.true_or, Bool.or_false, Bool.false_or, call_funcH, c_drawH, c_loopH, gAll_F, gIf_F, pickB_true, pickB_false, Array.toList_append, List.cons_append, List.nil_append, opTmps, List.contains_cons, List.contains_nil]) ?_
        refine dE_early rfl rfl (.slice .imm 6 (n.kids.map nodeSV)) (by simp only [go_sem, imp_self, implies_true, reduceCtorEq, false_imp_iff, true_imp_iff, decide_true, decide_false, Int.toNat_natCast, Int.toNat_zero, Int.toNat_one, Int.natCast_nonneg, Int.le_refl, Nat.le_refl, Nat.reduceAdd, Nat.reduceMul, Nat.reduceLeDiff, Nat.reduceLT, Int.reduceLE, Int.reduceLT, Nat.reduceBEq, Nat.reduceEqDiff, Bool.not_true, Bool.not_false, Bool.and_false, Bool.false_and, Bool.or_true, Bool.true_or, Bool.or_false, Bool.false_or, call_funcH, c_drawH, c_loopH, gAll_F, gIf_F, pickB_true, pickB_false, Array.toList_append, List.cons_append, List.nil_append, opTmps, List.contains_cons, List.contains_nil]) ?_
        refine dE_early rfl rfl (.sc (.int .i64 k)) (by simp only [go_sem, imp_self, implies_true, reduceCtorEq, false_imp_iff, true_imp_iff, decide_true, decide_false, Int.toNat_natCast, Int.toNat_zero, Int.toNat_one, Int.natCast_nonneg, Int.le_refl, Nat.le_refl, Nat.reduceAdd, Nat.reduceMul, Nat.reduceLeDiff, Nat.reduceLT, Int.reduceLE, Int.reduceLT, Nat.reduceBEq, Nat.reduceEqDiff, Bool.not_true, Bool.not_false, Bool.and_false, Bool.false_and, Bool.or_true, Bool.true_or, Bool.or_false, Bool.false_or, call_funcH, c_drawH, c_loopH, gAll_F, gIf_F, pickB_true, pickB_false, Array.toList_append, List.cons_append, List.nil_append, opTmps, List.contains_cons, List.contains_nil]) ?_
        refine dE_early rfl rfl (.ref (nodeSV (n.kids.getD k default)).cells) (by simp only [go_sem, imp_self, implies_true, reduceCtorEq, false_imp_iff, true_imp_iff, decide_true, decide_false, Int.toNat_natCast, Int.toNat_zero, Int.toNat_one, Int.natCast_nonneg, Int.le_refl, Nat.le_refl, Nat.reduceAdd, Nat.reduceMul, Nat.reduceLeDiff, Nat.reduceLT, Int.reduceLE, Int.reduceLT, Nat.reduceBEq, Nat.reduceEqDiff, Bool.not_true, Bool.not_false, Bool.and_false, Bool.false_and, Bool.or_true, Bool.true_or, Bool.or_false, Bool.false_or, call_funcH, c_drawH, c_loopH, gAll_F, gIf_F, pickB_true, pickB_false, Array.toList_append, List.cons_append, List.nil_append, opTmps, List.contains_cons, List.contains_nil, c1, getD_map' _ hlt]) ?_
        refine dE_early rfl rfl (nodeSV (n.kids.getD k default)) (by simp only [go_sem, imp_self, implies_true, reduceCtorEq, false_imp_iff, true_imp_iff, decide_true, decide_false, Int.toNat_natCast, Int.toNat_zero, Int.toNat_one, Int.natCast_nonneg, Int.le_refl, Nat.le_refl, Nat.reduceAdd, Nat.reduceMul, Nat.reduceLeDiff, Nat.reduceLT, Int.reduceLE, Int.reduceLT, Nat.reduceBEq, Nat.reduceEqDiff, Bool.not_true, Bool.not_false, Bool.and_false, Bool.false_and, Bool.or_true, Bool.true_or, Bool.or_false, Bool.false_or, call_funcH, c_drawH, c_loopH, gAll_F, gIf_F, pickB_true, pickB_false, Array.toList_append, List.cons_append, List.nil_append, opTmps, List.contains_cons, List.contains_nil]) ?_
        refine dE_early rfl rfl (.sc (.int .i64 ((d' + 1 : Nat) : Int))) (by simp only [go_sem, imp_self, implies_true, reduceCtorEq, false_imp_iff, true_imp_iff, decide_true, decide_false, Int.toNat_natCast, Int.toNat_zero, Int.toNat_one, Int.natCast_nonneg, Int.le_refl, Nat.le_refl, Nat.reduceAdd, Nat.reduceMul, Nat.reduceLeDiff, Nat.reduceLT, Int.reduceLE, Int.reduceLT, Nat.reduceBEq, Nat.reduceEqDiff, Bool.not_true, Bool.not_false, Bool.and_false, Bool.false_and, Bool.or_true, Bool.true_or, Bool.or_false, Bool.false_or, call_funcH, c_drawH, c_loopH, gAll_F, gIf_F, pickB_true, pickB_false, Array.toList_append, List.cons_append, List.nil_append, opTmps, List.contains_cons, List.contains_nil]) ?_
        refine dE_early rfl rfl (.sc (.int .i64 (d' : Int))) (by simp only [go_sem, imp_self, implies_true, reduceCtorEq, false_imp_iff, true_imp_iff, decide_true, decide_false, Int.toNat_natCast, Int.toNat_zero, Int.toNat_one, Int.natCast_nonneg, Int.le_refl, Nat.le_refl, Nat.reduceAdd, Nat.reduceMul, Nat.reduceLeDiff, Nat.reduceLT, Int.reduceLE, Int.reduceLT, Nat.reduceBEq, Nat.reduceEqDiff, Bool.not_true, Bool.not_false, Bool.and_false, Bool.false_and, Bool.or_true, Bool.true_or, Bool.or_false, Bool.false_or, call_funcH, c_drawH, c_loopH, gAll_F, gIf_F, pickB_true, pickB_false, Array.toList_append, List.cons_append, List.nil_append, opTmps, List.contains_cons, List.contains_nil, hw2]) ?_
        refine dE_early rfl rfl (nodeSV (cutF d' (n.kids.getD k default))) ?_ ?_
        · simp only [go_sem, imp_self, implies_true, reduceCtorEq, false_imp_iff, true_imp_iff, decide_true, decide_false, Int.toNat_natCast, Int.toNat_zero, Int.toNat_one, Int.natCast_nonneg, Int.le_refl, Nat.le_refl, Nat.reduceAdd, Nat.reduceMul, Nat.reduceLeDiff, Nat.reduceLT, Int.reduceLE, Int.reduceLT, Nat.reduceBEq, Nat.reduceEqDiff, Bool.not_true, Bool.not_false, Bool.and_false, Bool.false_and, Bool.or_true, Bool.true_or, Bool.or_false, Bool.false_or, call_funcH, c_drawH, c_loopH, gAll_F, gIf_F, pickB_true, pickB_false, Array.toList_append, List.cons_append, List.nil_append, opTmps, List.contains_cons, List.contains_nil]
          refine ⟨_, ?_, rfl⟩
          simp only [go_sem, imp_self, implies_true, reduceCtorEq, false_imp_iff, true_imp_iff, decide_true, decide_false, Int.toNat_natCast, Int.toNat_zero, Int.toNat_one, Int.natCast_nonneg, Int.le_refl, Nat.le_refl, Nat.reduceAdd, Nat.reduceMul, Nat.reduceLeDiff, Nat.reduceLT, Int.reduceLE, Int.reduceLT, Nat.reduceBEq, Nat.reduceEqDiff, Bool.not_true, Bool.not_false, Bool.and_false, Bool.false_and, Bool.or_true, Bool.true_or, Bool.or_false, Bool.false_or, call_funcH, c_drawH, c_loopH, gAll_F, gIf_F, pickB_true, pickB_false, Array.toList_append, List.cons_append, List.nil_append, opTmps, List.contains_cons, List.contains_nil]
          exact ih d' (by omega) (by omega) _ _ _ ⟨⟨[], by simp⟩, ids_node _ _, .inl rfl⟩
        refine dE_early rfl rfl (.slice .full 6 [nodeSV (cutF d' (n.kids.getD k default))]) ?_ ?_
        · simp only [go_sem, imp_self, implies_true, reduceCtorEq, false_imp_iff, true_imp_iff, decide_true, decide_false, Int.toNat_natCast, Int.toNat_zero, Int.toNat_one, Int.natCast_nonneg, Int.le_refl, Nat.le_refl, Nat.reduceAdd, Nat.reduceMul, Nat.reduceLeDiff, Nat.reduceLT, Int.reduceLE, Int.reduceLT, Nat.reduceBEq, Nat.reduceEqDiff, Bool.not_true, Bool.not_false, Bool.and_false, Bool.false_and, Bool.or_true, Bool.true_or, Bool.or_false, Bool.false_or, call_funcH, c_drawH, c_loopH, gAll_F, gIf_F, pickB_true, pickB_false, Array.toList_append, List.cons_append, List.nil_append, opTmps, List.contains_cons, List.contains_nil]
          refine ⟨_, ?_, rfl⟩
          simp only [go_sem, imp_self, implies_true, reduceCtorEq, false_imp_iff, true_imp_iff, decide_true, decide_false, Int.toNat_natCast, Int.toNat_zero, Int.toNat_one, Int.natCast_nonneg, Int.le_refl, Nat.le_refl, Nat.reduceAdd, Nat.reduceMul, Nat.reduceLeDiff, Nat.reduceLT, Int.reduceLE, Int.reduceLT, Nat.reduceBEq, Nat.reduceEqDiff, Bool.not_true, Bool.not_false, Bool.and_false, Bool.false_and, Bool.or_true, Bool.true_or, Bool.or_false, Bool.false_or, call_funcH, c_drawH, c_loopH, gAll_F, gIf_F, pickB_true, pickB_false, Array.toList_append, List.cons_append, List.nil_append, opTmps, List.contains_cons, List.contains_nil]
          refine ⟨⟨[], by simp⟩, ?_, .inl rfl⟩
          exact ids_slice (.inr rfl) (by have := ids_nodeL (st.length + 3) [cutF d' (n.kids.getD k default)]; simpa [nodeL] using this)
        refine dE_turn rfl (.slice (.own (st.length + 2) (k + 1)) 6 (((cutKids (d' + 1) n.kids).take (k + 1)).map nodeSV)) (st ++ [.cells [.sc (.int .i64 0), .sc (.string ⟨#[]⟩), .sc (.int .i64 0), .sc (.int .i64 0), .slice .full 0 [], .slice .full 0 []], .cells [.sc (.int .i64 n.kind), .sc (.string t), .sc (.int .i64 n.number), .sc (.int .i64 0), .slice .full 0 [], .slice (.own (st.length + 2) k) 6 (((cutKids (d' + 1) n.kids).take k).map nodeSV)], .tok (k + 1)]) ?_ rfl trivial ?_
        · simp only [go_sem, imp_self, implies_true, reduceCtorEq, false_imp_iff, true_imp_iff, decide_true, decide_false, Int.toNat_natCast, Int.toNat_zero, Int.toNat_one, Int.natCast_nonneg, Int.le_refl, Nat.le_refl, Nat.reduceAdd, Nat.reduceMul, Nat.reduceLeDiff, Nat.reduceLT, Int.reduceLE, Int.reduceLT, Nat.reduceBEq, Nat.reduceEqDiff, Bool.not_true, Bool.not_false, Bool.and_false, Bool.false_and, Bool.or_true, Bool.true_or, Bool.or_false, Bool.false_or, call_funcH, c_drawH, c_loopH, gAll_F, gIf_F, pickB_true, pickB_false, Array.toList_append, List.cons_append, List.nil_append, opTmps, List.contains_cons, List.contains_nil]
          exact ⟨app22 hlen, by rw [hts]⟩
        refine dE_pure rfl rfl (.ptr (st.length + 1) 5) (fun s _ => by simp only [go_sem, imp_self, implies_true, reduceCtorEq, false_imp_iff, true_imp_iff, decide_true, decide_false, Int.toNat_natCast, Int.toNat_zero, Int.toNat_one, Int.natCast_nonneg, Int.le_refl, Nat.le_refl, Nat.reduceAdd, Nat.reduceMul, Nat.reduceLeDiff, Nat.reduceLT, Int.reduceLE, Int.reduceLT, Nat.reduceBEq, Nat.reduceEqDiff, Bool.not_true, Bool.not_false, Bool.and_false, Bool.false_and, Bool.or_true, Bool.true_or, Bool.or_false, Bool.false_or, call_funcH, c_drawH, c_loopH, gAll_F, gIf_F, pickB_true, pickB_false, Array.toList_append, List.cons_append, List.nil_append, opTmps, List.contains_cons, List.contains_nil]) ?_
        refine dE_turn rfl .any (st ++ [.cells [.sc (.int .i64 0), .sc (.string ⟨#[]⟩), .sc (.int .i64 0), .sc (.int .i64 0), .slice .full 0 [], .slice .full 0 []], .cells [.sc (.int .i64 n.kind), .sc (.string t), .sc (.int .i64 n.number), .sc (.int .i64 0), .slice .full 0 [], .slice (.own (st.length + 2) (k + 1)) 6 (((cutKids (d' + 1) n.kids).take (k + 1)).map nodeSV)], .tok (k + 1)]) ?_ rfl trivial ?_
        · simp only [go_sem, imp_self, implies_true, reduceCtorEq, false_imp_iff, true_imp_iff, decide_true, decide_false, Int.toNat_natCast, Int.toNat_zero, Int.toNat_one, Int.natCast_nonneg, Int.le_refl, Nat.le_refl, Nat.reduceAdd, Nat.reduceMul, Nat.reduceLeDiff, Nat.reduceLT, Int.reduceLE, Int.reduceLT, Nat.reduceBEq, Nat.reduceEqDiff, Bool.not_true, Bool.not_false, Bool.and_false, Bool.false_and, Bool.or_true, Bool.true_or, Bool.or_false, Bool.false_or, call_funcH, c_drawH, c_loopH, gAll_F, gIf_F, pickB_true, pickB_false, Array.toList_append, List.cons_append, List.nil_append, opTmps, List.contains_cons, List.contains_nil]
        refine dE_end ?_
        simp only [go_sem, imp_self, implies_true, reduceCtorEq, false_imp_iff, true_imp_iff, decide_true, decide_false, Int.toNat_natCast, Int.toNat_zero, Int.toNat_one, Int.natCast_nonneg, Int.le_refl, Nat.le_refl, Nat.reduceAdd, Nat.reduceMul, Nat.reduceLeDiff, Nat.reduceLT, Int.reduceLE, Int.reduceLT, Nat.reduceBEq, Nat.reduceEqDiff, Bool.not_true, Bool.not_false, Bool.and_false, Bool.false_and, Bool.or_true, Bool.true_or, Bool.or_false, Bool.false_or, call_funcH, c_drawH, c_loopH, gAll_F, gIf_F, pickB_true, pickB_false, Array.toList_append, List.cons_append, List.nil_append, opTmps, List.contains_cons, List.contains_nil, hw]
        refine ⟨m - 1, _, by omega, ?_, k + 1, _, by omega, ht, rfl, rfl⟩
        repeat (first | exact leEnv_nil | refine leEnv_any _ ?_ | refine leEnv_same _ ?_ | refine leEnv_norm _ ?_)
      · have hk : k = cutN d n.kids.length := by
          have e : ¬ (k < cutN d n.kids.length) := by
            intro hlt
            have : (decide ((k : Int) < (n.kids.length : Int)) && decide ((k : Int) < 5) && decide ((0 : Int) < (d : Int))) = true := by
              unfold cutN at hlt
              split at hlt
              · omega
              · simp only [Bool.and_eq_true, decide_eq_true_eq]; omega
            rw [this] at hc; cases hc
          omega
        have htk : (cutKids d n.kids).take k = cutKids d n.kids := List.take_of_length_le (by rw [cutKids_len]; omega)
        rw [htk]
        refine ⟨⟨_, rfl⟩, ?_, _, ?_, h⟩
        · simp only [norm, List.map_cons, List.map_nil, norm1, ids_agg, List.forall_mem_cons, ids_sc, true_and]
          exact ⟨ids_slice (.inl rfl) fun x hx => (by cases hx), ids_nodes _ _, fun x hx => by cases hx⟩
        · subst ht
          exact SVle.agg (.cons (SVle.refl _) (.cons (SVle.refl _) (.cons (SVle.refl _) (.cons (SVle.refl _) (.cons (SVle.nil _ _ _ (.inr rfl)) (.cons (SVle.refl _) .nil))))))

end Go.Proofs
