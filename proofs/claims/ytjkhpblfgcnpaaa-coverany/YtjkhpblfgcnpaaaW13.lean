/- below, under. -/
import Derived.Test.YtjkhpblfgcnpaaaW12
set_option linter.unusedSimpArgs false
set_option maxRecDepth 4000
namespace Go.Proofs
open Go Go.AL

def belowL (r : List Nd) (head : Nd) : List Nd :=
  if looseB (r.getD 0 default) then List.replicate head.kids.length anyN ++ r.drop 1
  else if sameB (r.getD 0 default) head then (r.getD 0 default).kids ++ r.drop 1 else []
def belowB (r : List Nd) (head : Nd) : Bool := looseB (r.getD 0 default) || sameB (r.getD 0 default) head

theorem kept_app (st : St) (o : Ob) (a b : List Nd) : Kept st (.slice .imm 6 ((a ++ b).map nodeSV)) (.slice (.own st.length 0) 6 (a.map nodeSV ++ b.map nodeSV)) (st ++ [o]) :=
  ⟨⟨[o], rfl⟩, ids_nodes _ _, .inr (by rw [List.map_append]; rfl)⟩

theorem ids_nodes0 (n : Nat) : Ids n (.slice .imm 0 []) := ids_slice (.inl rfl) fun x hx => by cases hx

theorem below_c (r : List Nd) (head : Nd) (hr : r ≠ []) (hk : head.kids.length ≤ 5) (hl : r.length ≤ 100000) (hk0 : (r.getD 0 default).kids.length ≤ 5) (K : SV → St → Prop) (st : St)
    (h : K (.tuple [nodesSV (belowL r head), .sc (.bool (belowB r head))]) st) : ACalls Try.prog 31 [nodesSV r, nodeSV head] K st := by
  have hpos := List.length_pos_iff.2 hr
  have d0 : (0 : Int) < (r.length : Int) := by omega
  have d3 : (1 : Int) ≤ (r.length : Int) := by omega
  refine acalls_le ?_
  refine acalls_go_pure [] Try.func31 rfl Try.results31 Try.ntmps31 ?_
  unfold belowL belowB at h
  simp only [go_sem, imp_self, implies_true, reduceCtorEq, false_imp_iff, true_imp_iff, decide_true, decide_false, Int.toNat_natCast, Int.toNat_zero, Int.toNat_one, Int.natCast_nonneg, Int.le_refl, Nat.le_refl, Nat.reduceAdd, Nat.reduceMul, Nat.reduceLeDiff, Nat.reduceLT, Int.reduceLE, Int.reduceLT, Nat.reduceBEq, Nat.reduceEqDiff, Bool.not_true, Bool.not_false, Bool.and_false, Bool.false_and, Bool.or_true, Bool.true_or, Bool.or_false, Bool.false_or, call_func, c_draw, c_loop, d0, getD_map' _ hpos]
  refine loose_c _ _ _ ?_
  cases hL : looseB (r.getD 0 default)
  · simp only [hL, Bool.false_eq_true, if_false, Bool.false_or] at h
    simp only [go_sem, imp_self, implies_true, reduceCtorEq, false_imp_iff, true_imp_iff, decide_true, decide_false, Int.toNat_natCast, Int.toNat_zero, Int.toNat_one, Int.natCast_nonneg, Int.le_refl, Nat.le_refl, Nat.reduceAdd, Nat.reduceMul, Nat.reduceLeDiff, Nat.reduceLT, Int.reduceLE, Int.reduceLT, Nat.reduceBEq, Nat.reduceEqDiff, Bool.not_true, Bool.not_false, Bool.and_false, Bool.false_and, Bool.or_true, Bool.true_or, Bool.or_false, Bool.false_or, call_func, c_draw, c_loop]
    refine awp_draw [] Try.mixed rfl ?_
    simp only [go_sem, imp_self, implies_true, reduceCtorEq, false_imp_iff, true_imp_iff, decide_true, decide_false, Int.toNat_natCast, Int.toNat_zero, Int.toNat_one, Int.natCast_nonneg, Int.le_refl, Nat.le_refl, Nat.reduceAdd, Nat.reduceMul, Nat.reduceLeDiff, Nat.reduceLT, Int.reduceLE, Int.reduceLT, Nat.reduceBEq, Nat.reduceEqDiff, Bool.not_true, Bool.not_false, Bool.and_false, Bool.false_and, Bool.or_true, Bool.true_or, Bool.or_false, Bool.false_or, call_func, c_draw, c_loop, d0, getD_map' _ hpos]
    refine ⟨.sc (.bool (sameB (r.getD 0 default) head)), ?_, ?_⟩
    · simp only [go_sem, imp_self, implies_true, reduceCtorEq, false_imp_iff, true_imp_iff, decide_true, decide_false, Int.toNat_natCast, Int.toNat_zero, Int.toNat_one, Int.natCast_nonneg, Int.le_refl, Nat.le_refl, Nat.reduceAdd, Nat.reduceMul, Nat.reduceLeDiff, Nat.reduceLT, Int.reduceLE, Int.reduceLT, Nat.reduceBEq, Nat.reduceEqDiff, Bool.not_true, Bool.not_false, Bool.and_false, Bool.false_and, Bool.or_true, Bool.true_or, Bool.or_false, Bool.false_or, call_func, c_draw, c_loop]
      exact same_c _ _ _ _ ⟨⟨[], by simp⟩, .sc _, .inl rfl⟩
    simp only [go_sem, imp_self, implies_true, reduceCtorEq, false_imp_iff, true_imp_iff, decide_true, decide_false, Int.toNat_natCast, Int.toNat_zero, Int.toNat_one, Int.natCast_nonneg, Int.le_refl, Nat.le_refl, Nat.reduceAdd, Nat.reduceMul, Nat.reduceLeDiff, Nat.reduceLT, Int.reduceLE, Int.reduceLT, Nat.reduceBEq, Nat.reduceEqDiff, Bool.not_true, Bool.not_false, Bool.and_false, Bool.false_and, Bool.or_true, Bool.true_or, Bool.or_false, Bool.false_or, call_func, c_draw, c_loop]
    refine ⟨fun hs => ?_, fun hs => ?_⟩
    · rw [if_pos hs, hs] at h
      have z0 : ((0 : Nat) : Int) ≤ ((r.getD 0 default).kids.length : Int) := by omega
      refine awp_draw [] Try.mixed rfl ?_
      simp only [go_sem, imp_self, implies_true, reduceCtorEq, false_imp_iff, true_imp_iff, decide_true, decide_false, Int.toNat_natCast, Int.toNat_zero, Int.toNat_one, Int.natCast_nonneg, Int.le_refl, Nat.le_refl, Nat.reduceAdd, Nat.reduceMul, Nat.reduceLeDiff, Nat.reduceLT, Int.reduceLE, Int.reduceLT, Nat.reduceBEq, Nat.reduceEqDiff, Bool.not_true, Bool.not_false, Bool.and_false, Bool.false_and, Bool.or_true, Bool.true_or, Bool.or_false, Bool.false_or, call_func, c_draw, c_loop, d0, d3, z0, getD_map' _ hpos, node_drop5, cellsOf, List.take_length]
      refine ⟨.slice .imm 6 ((((r.getD 0 default).kids) ++ r.drop 1).map nodeSV), ?_, ?_⟩
      · simp only [go_sem, imp_self, implies_true, reduceCtorEq, false_imp_iff, true_imp_iff, decide_true, decide_false, Int.toNat_natCast, Int.toNat_zero, Int.toNat_one, Int.natCast_nonneg, Int.le_refl, Nat.le_refl, Nat.reduceAdd, Nat.reduceMul, Nat.reduceLeDiff, Nat.reduceLT, Int.reduceLE, Int.reduceLT, Nat.reduceBEq, Nat.reduceEqDiff, Bool.not_true, Bool.not_false, Bool.and_false, Bool.false_and, Bool.or_true, Bool.true_or, Bool.or_false, Bool.false_or, call_func, c_draw, c_loop]
        exact ⟨app22 (by simp only [List.length_map, List.length_drop, List.length_replicate]; omega), by rw [← List.map_drop]; exact kept_app _ _ _ _⟩
      simp only [go_sem, imp_self, implies_true, reduceCtorEq, false_imp_iff, true_imp_iff, decide_true, decide_false, Int.toNat_natCast, Int.toNat_zero, Int.toNat_one, Int.natCast_nonneg, Int.le_refl, Nat.le_refl, Nat.reduceAdd, Nat.reduceMul, Nat.reduceLeDiff, Nat.reduceLT, Int.reduceLE, Int.reduceLT, Nat.reduceBEq, Nat.reduceEqDiff, Bool.not_true, Bool.not_false, Bool.and_false, Bool.false_and, Bool.or_true, Bool.true_or, Bool.or_false, Bool.false_or, call_func, c_draw, c_loop, FinK]
      exact ⟨ids_nodes _ _, _, SVle.refl _, h⟩
    · rw [if_neg (by rw [hs]; decide), hs] at h
      simp only [go_sem, imp_self, implies_true, reduceCtorEq, false_imp_iff, true_imp_iff, decide_true, decide_false, Int.toNat_natCast, Int.toNat_zero, Int.toNat_one, Int.natCast_nonneg, Int.le_refl, Nat.le_refl, Nat.reduceAdd, Nat.reduceMul, Nat.reduceLeDiff, Nat.reduceLT, Int.reduceLE, Int.reduceLT, Nat.reduceBEq, Nat.reduceEqDiff, Bool.not_true, Bool.not_false, Bool.and_false, Bool.false_and, Bool.or_true, Bool.true_or, Bool.or_false, Bool.false_or, call_func, c_draw, c_loop, FinK]
      exact ⟨ids_nodes0 _, _, SVle.tuple (.cons (SVle.nil _ _ _ (.inr rfl)) (.cons (SVle.refl _) .nil)), h⟩
  · simp only [hL, if_true, Bool.true_or] at h
    simp only [go_sem, imp_self, implies_true, reduceCtorEq, false_imp_iff, true_imp_iff, decide_true, decide_false, Int.toNat_natCast, Int.toNat_zero, Int.toNat_one, Int.natCast_nonneg, Int.le_refl, Nat.le_refl, Nat.reduceAdd, Nat.reduceMul, Nat.reduceLeDiff, Nat.reduceLT, Int.reduceLE, Int.reduceLT, Nat.reduceBEq, Nat.reduceEqDiff, Bool.not_true, Bool.not_false, Bool.and_false, Bool.false_and, Bool.or_true, Bool.true_or, Bool.or_false, Bool.false_or, call_func, c_draw, c_loop]
    refine awp_draw [] Try.mixed rfl ?_
    simp only [go_sem, imp_self, implies_true, reduceCtorEq, false_imp_iff, true_imp_iff, decide_true, decide_false, Int.toNat_natCast, Int.toNat_zero, Int.toNat_one, Int.natCast_nonneg, Int.le_refl, Nat.le_refl, Nat.reduceAdd, Nat.reduceMul, Nat.reduceLeDiff, Nat.reduceLT, Int.reduceLE, Int.reduceLT, Nat.reduceBEq, Nat.reduceEqDiff, Bool.not_true, Bool.not_false, Bool.and_false, Bool.false_and, Bool.or_true, Bool.true_or, Bool.or_false, Bool.false_or, call_func, c_draw, c_loop, d0, d3, getD_map' _ hpos, node_drop5, cellsOf]
    refine ⟨.slice .full 6 ((List.replicate head.kids.length anyN).map nodeSV), ?_, ?_⟩
    · simp only [go_sem, imp_self, implies_true, reduceCtorEq, false_imp_iff, true_imp_iff, decide_true, decide_false, Int.toNat_natCast, Int.toNat_zero, Int.toNat_one, Int.natCast_nonneg, Int.le_refl, Nat.le_refl, Nat.reduceAdd, Nat.reduceMul, Nat.reduceLeDiff, Nat.reduceLT, Int.reduceLE, Int.reduceLT, Nat.reduceBEq, Nat.reduceEqDiff, Bool.not_true, Bool.not_false, Bool.and_false, Bool.false_and, Bool.or_true, Bool.true_or, Bool.or_false, Bool.false_or, call_func, c_draw, c_loop]
      refine wild_c _ hk _ _ ⟨⟨[], by simp⟩, ?_, .inl rfl⟩
      exact ids_slice (.inr rfl) (by have := ids_nodeL st.length (List.replicate head.kids.length anyN); rwa [nodeL_eq] at this)
    simp only [go_sem, imp_self, implies_true, reduceCtorEq, false_imp_iff, true_imp_iff, decide_true, decide_false, Int.toNat_natCast, Int.toNat_zero, Int.toNat_one, Int.natCast_nonneg, Int.le_refl, Nat.le_refl, Nat.reduceAdd, Nat.reduceMul, Nat.reduceLeDiff, Nat.reduceLT, Int.reduceLE, Int.reduceLT, Nat.reduceBEq, Nat.reduceEqDiff, Bool.not_true, Bool.not_false, Bool.and_false, Bool.false_and, Bool.or_true, Bool.true_or, Bool.or_false, Bool.false_or, call_func, c_draw, c_loop]
    refine ⟨.slice .imm 6 ((List.replicate head.kids.length anyN ++ r.drop 1).map nodeSV), ?_, ?_⟩
    · simp only [go_sem, imp_self, implies_true, reduceCtorEq, false_imp_iff, true_imp_iff, decide_true, decide_false, Int.toNat_natCast, Int.toNat_zero, Int.toNat_one, Int.natCast_nonneg, Int.le_refl, Nat.le_refl, Nat.reduceAdd, Nat.reduceMul, Nat.reduceLeDiff, Nat.reduceLT, Int.reduceLE, Int.reduceLT, Nat.reduceBEq, Nat.reduceEqDiff, Bool.not_true, Bool.not_false, Bool.and_false, Bool.false_and, Bool.or_true, Bool.true_or, Bool.or_false, Bool.false_or, call_func, c_draw, c_loop]
      exact ⟨app22 (by simp only [List.length_map, List.length_drop, List.length_replicate]; omega), by rw [← List.map_drop]; exact kept_app _ _ _ _⟩
    simp only [go_sem, imp_self, implies_true, reduceCtorEq, false_imp_iff, true_imp_iff, decide_true, decide_false, Int.toNat_natCast, Int.toNat_zero, Int.toNat_one, Int.natCast_nonneg, Int.le_refl, Nat.le_refl, Nat.reduceAdd, Nat.reduceMul, Nat.reduceLeDiff, Nat.reduceLT, Int.reduceLE, Int.reduceLT, Nat.reduceBEq, Nat.reduceEqDiff, Bool.not_true, Bool.not_false, Bool.and_false, Bool.false_and, Bool.or_true, Bool.true_or, Bool.or_false, Bool.false_or, call_func, c_draw, c_loop, FinK]
    exact ⟨ids_nodes _ _, _, SVle.refl _, h⟩

def underL (rows : List (List Nd)) (head : Nd) : List (List Nd) := (rows.filter fun r => belowB r head).map fun r => belowL r head

theorem under_snoc (rows : List (List Nd)) (head : Nd) {k : Nat} (h : k < rows.length) (b : Bool) (hb : belowB (rows.getD k default) head = b) :
    (underL (rows.take (k + 1)) head).map nodesSV = if b then (underL (rows.take k) head).map nodesSV ++ [nodesSV (belowL (rows.getD k default) head)] else (underL (rows.take k) head).map nodesSV := by
  rw [take_snoc' rows h]
  unfold underL
  rw [List.filter_append, List.map_append, List.map_append]
  generalize rows.getD k default = r at hb
  cases b <;> simp only [List.filter_cons, hb, if_true, Bool.false_eq_true, if_false, List.filter_nil, List.map_cons, List.map_nil, List.append_nil]

theorem underL_len (rows : List (List Nd)) (head : Nd) : (underL rows head).length ≤ rows.length := by
  unfold underL; rw [List.length_map]; exact List.length_filter_le _ _

theorem under_c (rows : List (List Nd)) (head : Nd) (hne : ∀ r ∈ rows, r ≠ []) (hb : rows.length ≤ 100000) (hk : head.kids.length ≤ 5) (hl : ∀ r ∈ rows, r.length ≤ 100000) (hk0 : ∀ r ∈ rows, (r.getD 0 default).kids.length ≤ 5)
    (K : SV → St → Prop) (st : St) (h : K (rowsSV (underL rows head)) st) : ACalls Try.prog 29 [rowsSV rows, nodeSV head] K st := by
  refine acalls_go_pure [] Try.func29 rfl Try.results29 Try.ntmps29 ?_
  simp only [go_sem, imp_self, implies_true, reduceCtorEq, false_imp_iff, true_imp_iff, decide_true, decide_false, Int.toNat_natCast, Int.toNat_zero, Int.toNat_one, Int.natCast_nonneg, Int.le_refl, Nat.le_refl, Nat.reduceAdd, Nat.reduceMul, Nat.reduceLeDiff, Nat.reduceLT, Int.reduceLE, Int.reduceLT, Nat.reduceBEq, Nat.reduceEqDiff, Bool.not_true, Bool.not_false, Bool.and_false, Bool.false_and, Bool.or_true, Bool.true_or, Bool.or_false, Bool.false_or, call_func, c_draw, c_loop]
  refine awp_own 5 1 0 rfl ?_
  simp only [go_sem]
  refine awp_rounds [] (fun m e s => ∃ k ver, k + m = rows.length ∧ e = [.any, .any, .any, .ref (nodeSV head).cells, .any, .slice (.own st.length ver) 1 ((underL (rows.take k) head).map nodesSV), .any, .any, .any, .any, .slice .imm 1 (rows.map nodesSV),
     .sc (.int .i64 rows.length), .sc (.int .i64 k), .any, .any, .any, .any, .any, .any, .any, .any, .any, .any, .any, .any, .any, .any, .any, .any] ∧ s = st ++ [.tok ver]) (n := rows.length) ?_ ⟨0, 0, by omega, rfl, rfl⟩ ?_
  · repeat (first | exact leEnv_nil | refine leEnv_any _ ?_ | refine leEnv_same _ ?_)
  · rintro m e s ⟨k, ver, hkk, rfl, rfl⟩
    by_cases hlt : k < rows.length
    · have hr : (rows.getD k default) ∈ rows := by simp [List.getD_eq_getElem?_getD, hlt]
      have i1 : (k : Int) < (rows.length : Int) := by omega
      have hw := wrap_succ k (by omega)
      have hlen : (underL (rows.take k) head).length + 1 ≤ 1000000 := by
        have := underL_len (rows.take k) head
        simp at this
        omega
      simp only [go_sem, imp_self, implies_true, reduceCtorEq, false_imp_iff, true_imp_iff, decide_true, decide_false, Int.toNat_natCast, Int.toNat_zero, Int.toNat_one, Int.natCast_nonneg, Int.le_refl, Nat.le_refl, Nat.reduceAdd, Nat.reduceMul, Nat.reduceLeDiff, Nat.reduceLT, Int.reduceLE, Int.reduceLT, Nat.reduceBEq, Nat.reduceEqDiff, Bool.not_true, Bool.not_false, Bool.and_false, Bool.false_and, Bool.or_true, Bool.true_or, Bool.or_false, Bool.false_or, call_func, c_draw, c_loop, i1, hw, getD_map' _ hlt]
      refine below_c _ _ (hne _ hr) hk (hl _ hr) (hk0 _ hr) _ _ ?_
      have hc := under_snoc rows head hlt _ rfl
      generalize belowB (rows.getD k default) head = b at *
      simp only [go_sem, imp_self, implies_true, reduceCtorEq, false_imp_iff, true_imp_iff, decide_true, decide_false, Int.toNat_natCast, Int.toNat_zero, Int.toNat_one, Int.natCast_nonneg, Int.le_refl, Nat.le_refl, Nat.reduceAdd, Nat.reduceMul, Nat.reduceLeDiff, Nat.reduceLT, Int.reduceLE, Int.reduceLT, Nat.reduceBEq, Nat.reduceEqDiff, Bool.not_true, Bool.not_false, Bool.and_false, Bool.false_and, Bool.or_true, Bool.true_or, Bool.or_false, Bool.false_or, call_func, c_draw, c_loop]
      cases b
      · simp only [Bool.false_eq_true, if_false] at hc
        simp only [go_sem, imp_self, implies_true, reduceCtorEq, false_imp_iff, true_imp_iff, decide_true, decide_false, Int.toNat_natCast, Int.toNat_zero, Int.toNat_one, Int.natCast_nonneg, Int.le_refl, Nat.le_refl, Nat.reduceAdd, Nat.reduceMul, Nat.reduceLeDiff, Nat.reduceLT, Int.reduceLE, Int.reduceLT, Nat.reduceBEq, Nat.reduceEqDiff, Bool.not_true, Bool.not_false, Bool.and_false, Bool.false_and, Bool.or_true, Bool.true_or, Bool.or_false, Bool.false_or, call_func, c_draw, c_loop, ← hc]
        refine ⟨m - 1, _, by omega, ?_, k + 1, ver, by omega, rfl, rfl⟩
        repeat (first | exact leEnv_nil | refine leEnv_any _ ?_ | refine leEnv_same _ ?_)
      · simp only [if_true] at hc
        simp only [go_sem, imp_self, implies_true, reduceCtorEq, false_imp_iff, true_imp_iff, decide_true, decide_false, Int.toNat_natCast, Int.toNat_zero, Int.toNat_one, Int.natCast_nonneg, Int.le_refl, Nat.le_refl, Nat.reduceAdd, Nat.reduceMul, Nat.reduceLeDiff, Nat.reduceLT, Int.reduceLE, Int.reduceLT, Nat.reduceBEq, Nat.reduceEqDiff, Bool.not_true, Bool.not_false, Bool.and_false, Bool.false_and, Bool.or_true, Bool.true_or, Bool.or_false, Bool.false_or, call_func, c_draw, c_loop]
        refine ⟨app37 hlen, m - 1, _, by omega, ?_, k + 1, ver + 1, by omega, by rw [hc], rfl⟩
        repeat (first | exact leEnv_nil | refine leEnv_any _ ?_ | refine leEnv_same _ ?_)
    · have d1 : ((k : Int) < (rows.length : Int)) = False := eq_false (by omega)
      obtain rfl : k = rows.length := by omega
      simp only [go_sem, imp_self, implies_true, reduceCtorEq, false_imp_iff, true_imp_iff, decide_true, decide_false, Int.toNat_natCast, Int.toNat_zero, Int.toNat_one, Int.natCast_nonneg, Int.le_refl, Nat.le_refl, Nat.reduceAdd, Nat.reduceMul, Nat.reduceLeDiff, Nat.reduceLT, Int.reduceLE, Int.reduceLT, Nat.reduceBEq, Nat.reduceEqDiff, Bool.not_true, Bool.not_false, Bool.and_false, Bool.false_and, Bool.or_true, Bool.true_or, Bool.or_false, Bool.false_or, call_func, c_draw, c_loop, d1, FinK, List.take_length]
      exact ⟨ids_rows _ _, h⟩

end Go.Proofs
