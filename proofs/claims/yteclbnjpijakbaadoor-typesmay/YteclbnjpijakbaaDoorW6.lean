/- New, Fresh of both, begin. -/
import Derived.Test.YteclbnjpijakbaaDoorW5
import Derived.Test.YteclbnjpijakbaaDoorA7
set_option linter.unusedSimpArgs false
set_option maxRecDepth 8000
namespace Go.Proofs
open Go Go.AL

theorem new_c (K : SV → St → Prop) (st : St) (h : K (.ptr (st.length + 1) 0) (st ++ [.map [], .cells [.sc (.int .i64 0), .mp st.length]])) : ACalls Tryd.prog 20 [] K st := by
  refine acalls_go (M := [3]) Tryd.func20 rfl Tryd.results20 Tryd.ntmps20 ?_
  simp only [go_sem, imp_self, implies_true, reduceCtorEq, false_imp_iff, true_imp_iff, decide_true, decide_false, Int.toNat_natCast, Int.toNat_zero, Int.toNat_one, Int.natCast_nonneg, Int.le_refl, Nat.le_refl, Nat.reduceAdd, Nat.reduceMul, Nat.reduceLeDiff, Nat.reduceLT, Int.reduceLE, Int.reduceLT, Int.reduceEq, Nat.reduceBEq, Nat.reduceEqDiff, Bool.not_true, Bool.not_false, Bool.and_false, Bool.false_and, Bool.or_true, Bool.true_or, Bool.or_false, Bool.false_or, call_funcH, c_drawH, c_loopH, gAll_F, gIf_F, pickB_true, pickB_false, Array.toList_append, List.cons_append, List.nil_append, opTmps, List.contains_cons, List.contains_nil]
  exact h

theorem variable_c (n : Int) (K : SV → St → Prop) (st : St) (h : K (tySV (.mk n ⟨#[]⟩ [])) st) : ACalls Tryd.prog 40 [.sc (.int .i64 n)] K st := by
  refine acalls_le ?_
  refine acalls_go_pure [] Tryd.func40 rfl Tryd.results40 Tryd.ntmps40 ?_
  rw [tySV_eq] at h
  simp only [go_sem, imp_self, implies_true, reduceCtorEq, false_imp_iff, true_imp_iff, decide_true, decide_false, Int.toNat_natCast, Int.toNat_zero, Int.toNat_one, Int.natCast_nonneg, Int.le_refl, Nat.le_refl, Nat.reduceAdd, Nat.reduceMul, Nat.reduceLeDiff, Nat.reduceLT, Int.reduceLE, Int.reduceLT, Int.reduceEq, Nat.reduceBEq, Nat.reduceEqDiff, Bool.not_true, Bool.not_false, Bool.and_false, Bool.false_and, Bool.or_true, Bool.true_or, Bool.or_false, Bool.false_or, call_funcH, c_drawH, c_loopH, gAll_F, gIf_F, pickB_true, pickB_false, Array.toList_append, List.cons_append, List.nil_append, opTmps, List.contains_cons, List.contains_nil]
  refine ⟨⟨_, rfl⟩, ?_, _, ?_, h⟩
  · simp only [norm, List.map_cons, List.map_nil, norm1, ids_agg, List.forall_mem_cons, ids_sc, true_and]
    exact ⟨ids_slice (.inl rfl) fun x hx => (by cases hx), fun x hx => by cases hx⟩
  · exact SVle.agg (.cons (SVle.refl _) (.cons (SVle.refl _) (.cons (SVle.nil _ _ _ (.inr rfl)) .nil)))

theorem fresh_c {id : Nat} {v : Int} {m : SV} (hv : 0 ≤ v ∧ v ≤ 1000000) {K : SV → St → Prop} {st : St} (hid : st[id]? = some (.cells [.sc (.int .i64 v), m])) (hm : Ids st.length m)
    (h : K (tySV (.mk (v + 1) ⟨#[]⟩ [])) (st.set id (.cells [.sc (.int .i64 (v + 1)), m]))) : ACalls Tryd.prog 21 [.ptr id 0] K st := by
  refine acalls_go_mod [] Tryd.func21 rfl Tryd.results21 Tryd.ntmps21 ?_
  obtain ⟨f1, f2, f3⟩ := cells_facts hid
  have hw : IntKind.i64.wrap (v + 1) = v + 1 := IntWalk.i64_in _ (by omega)
  simp only [go_sem, imp_self, implies_true, reduceCtorEq, false_imp_iff, true_imp_iff, decide_true, decide_false, Int.toNat_natCast, Int.toNat_zero, Int.toNat_one, Int.natCast_nonneg, Int.le_refl, Nat.le_refl, Nat.reduceAdd, Nat.reduceMul, Nat.reduceLeDiff, Nat.reduceLT, Int.reduceLE, Int.reduceLT, Int.reduceEq, Nat.reduceBEq, Nat.reduceEqDiff, Bool.not_true, Bool.not_false, Bool.and_false, Bool.false_and, Bool.or_true, Bool.true_or, Bool.or_false, Bool.false_or, call_funcH, c_drawH, c_loopH, gAll_F, gIf_F, pickB_true, pickB_false, Array.toList_append, List.cons_append, List.nil_append, opTmps, List.contains_cons, List.contains_nil, f1, f2, f3, hw]
  refine variable_c _ _ _ ?_
  simp only [go_sem, imp_self, implies_true, reduceCtorEq, false_imp_iff, true_imp_iff, decide_true, decide_false, Int.toNat_natCast, Int.toNat_zero, Int.toNat_one, Int.natCast_nonneg, Int.le_refl, Nat.le_refl, Nat.reduceAdd, Nat.reduceMul, Nat.reduceLeDiff, Nat.reduceLT, Int.reduceLE, Int.reduceLT, Int.reduceEq, Nat.reduceBEq, Nat.reduceEqDiff, Bool.not_true, Bool.not_false, Bool.and_false, Bool.false_and, Bool.or_true, Bool.true_or, Bool.or_false, Bool.false_or, call_funcH, c_drawH, c_loopH, gAll_F, gIf_F, pickB_true, pickB_false, Array.toList_append, List.cons_append, List.nil_append, opTmps, List.contains_cons, List.contains_nil, f1, f2, f3, hw]
  refine ⟨_, _, rfl, (Mod.refl st).set id _ ?_, by rw [norm_ty]; exact ids_ty _ _, by rw [norm_ty]; exact h⟩
  intro j hj
  match j, hj with
  | 0, _ => exact .sc _
  | 1, _ => exact hm

def zty : List SV := [.sc (.int .i64 0), .sc (.string ⟨#[]⟩), .slice .full 0 []]

def rty : Option Ty → List SV
  | none => [.sc (.int .i64 0), .sc (.string ⟨#[]⟩), .slice .full 0 []]
  | some t => (tySV t).cells

/-- What the document's state has: of each variable what it is bound to, if it is. -/
structure RSt (st : St) (id a b va vb : Nat) (R : List (Option Ty)) : Prop where
  hid : st[id]? = some (.cells [.arr a va R.length, .arr b vb R.length])
  ha : st[a]? = some (.arr va 3 (R.flatMap rty))
  hb : st[b]? = some (.arr vb 1 (R.map fun x => .sc (.bool x.isSome)))
  ne : a ≠ b

theorem rty_len (R : List (Option Ty)) : (R.flatMap rty).length = R.length * 3 := by
  induction R with
  | nil => rfl
  | cons x r ih =>
    rw [List.flatMap_cons, List.length_append, ih, List.length_cons]
    have : (rty x).length = 3 := by cases x with
      | none => rfl
      | some t => exact ty_len t
    omega

theorem RSt.neA {st : St} {id a b va vb : Nat} {R : List (Option Ty)} (h : RSt st id a b va vb R) : id ≠ a := by
  rintro rfl
  have := h.hid.symm.trans h.ha
  cases this
theorem RSt.neB {st : St} {id a b va vb : Nat} {R : List (Option Ty)} (h : RSt st id a b va vb R) : id ≠ b := by
  rintro rfl
  have := h.hid.symm.trans h.hb
  cases this

theorem app1b {n : Nat} (h : n ≤ 1000000) : AppOk Tryd.prog 48 48 1 n := appOk_of Tryd.aelem48 Tryd.aelem48 Tryd.asize4 Tryd.azero4 rfl Tryd.abytes4 (by omega) h

theorem ids_agg3 (n : Nat) (u v : Value) (m : AL.Mode) (hm : m = .imm ∨ m = .full) : Ids n (.agg [.sc u, .sc v, .slice m 0 []]) := by
  simp only [ids_agg, List.forall_mem_cons, ids_sc, true_and]
  exact ⟨ids_slice hm fun x hx => (by cases hx), fun x hx => by cases hx⟩

theorem ids_rty (n : Nat) (R : List (Option Ty)) : ∀ x ∈ R.flatMap rty, Ids n x := by
  intro x hx
  obtain ⟨o, _, ho⟩ := List.mem_flatMap.1 hx
  cases o with
  | none =>
    have := ids_agg3 n (.int .i64 0) (.string ⟨#[]⟩) .full (.inr rfl)
    rw [ids_agg] at this
    exact this x ho
  | some t =>
    have := ids_ty n t
    rw [tySV_eq, ids_agg, ← cells_ty] at this
    exact this x ho

theorem ids_z (n : Nat) (m : AL.Mode) (hm : m = .imm ∨ m = .full) : Ids n (.agg [.sc (.int .i64 0), .sc (.string ⟨#[]⟩), .slice m 0 []]) := by
  simp only [ids_agg, List.forall_mem_cons, ids_sc, true_and]
  exact ⟨ids_slice hm fun x hx => (by cases hx), fun x hx => by cases hx⟩

set_option maxHeartbeats 4000000 in
theorem rfresh_c {id a b va vb : Nat} {R : List (Option Ty)} {K : SV → St → Prop} {st : St} (hR : RSt st id a b va vb R) (hn : R.length ≤ 1000)
    (h : ∀ s, RSt s id a b (va + 1) (vb + 1) (R ++ [none]) → s.length = st.length → (∀ j, j ≠ id → j ≠ a → j ≠ b → s[j]? = st[j]?) → K (tySV (.mk (R.length + 1) ⟨#[]⟩ [])) s) : ACalls Tryd.prog 22 [.ptr id 0] K st := by
  refine acalls_le ?_
  refine acalls_go_mod [] Tryd.func22 rfl Tryd.results22 Tryd.ntmps22 ?_
  obtain ⟨f1, f2, f3⟩ := cells_facts hR.hid
  obtain ⟨g1, g2, g3, g4⟩ := arr_facts hR.ha
  obtain ⟨k1, k2, k3, k4⟩ := arr_facts hR.hb
  have n1 := hR.neA
  have n2 := hR.neB
  have n3 := hR.ne
  have hlen := rty_len R
  have hdr : (R.flatMap rty).drop (R.length * 3) = [] := List.drop_eq_nil_of_le (by omega)
  have htk : (R.flatMap rty).take (R.length * 3) = R.flatMap rty := List.take_of_length_le (by omega)
  simp only [go_sem, imp_self, implies_true, reduceCtorEq, false_imp_iff, true_imp_iff, decide_true, decide_false, Int.toNat_natCast, Int.toNat_zero, Int.toNat_one, Int.natCast_nonneg, Int.le_refl, Nat.le_refl, Nat.reduceAdd, Nat.reduceMul, Nat.reduceLeDiff, Nat.reduceLT, Int.reduceLE, Int.reduceLT, Int.reduceEq, Nat.reduceBEq, Nat.reduceEqDiff, Bool.not_true, Bool.not_false, Bool.and_false, Bool.false_and, Bool.or_true, Bool.true_or, Bool.or_false, Bool.false_or, call_funcH, c_drawH, c_loopH, gAll_F, gIf_F, pickB_true, pickB_false, Array.toList_append, List.cons_append, List.nil_append, opTmps, List.contains_cons, List.contains_nil, f1, f2, f3]
  have hdz : ((R ++ [none]).flatMap rty) = R.flatMap rty ++ [.sc (.int .i64 0), .sc (.string ⟨#[]⟩), .slice .full 0 []] := by simp [rty]
  have n1' := n1.symm
  have n2' := n2.symm
  have n3' := n3.symm
  have ht1 : (R.flatMap rty ++ [SV.sc (.int .i64 0), SV.sc (.string ⟨#[]⟩), SV.slice .imm 0 []]).take (R.length * 3) = R.flatMap rty := by rw [← hlen]; exact List.take_left
  have hd1 : (R.flatMap rty ++ [SV.sc (.int .i64 0), SV.sc (.string ⟨#[]⟩), SV.slice .imm 0 []]).drop (R.length * 3 + 3) = [] := List.drop_eq_nil_of_le (by rw [List.length_append, hlen]; simp)
  have hlt : (R.length : Int) < ((R.length + 1 : Nat) : Int) := by omega
  have happ : AppOk Tryd.prog 23 23 3 (R.length + 1) := app3 (by omega)
  refine awp_drawD [] [7, 9, 12] [([], st ++ [.cells [SV.sc (.int .i64 0), SV.sc (.string ⟨#[]⟩), SV.slice .full 0 []]]),
    ([7], st.set a (.arr (va + 1) 3 (R.flatMap rty ++ [SV.sc (.int .i64 0), SV.sc (.string ⟨#[]⟩), SV.slice .imm 0 []])) ++ [.cells [SV.sc (.int .i64 0), SV.sc (.string ⟨#[]⟩), SV.slice .full 0 []]]),
    ([7, 9], st.set a (.arr (va + 1) 3 (R.flatMap rty ++ [SV.sc (.int .i64 0), SV.sc (.string ⟨#[]⟩), SV.slice .full 0 []])) ++ [.cells [SV.sc (.int .i64 0), SV.sc (.string ⟨#[]⟩), SV.slice .full 0 []]]),
    ([7, 12], (st.set a (.arr (va + 1) 3 (R.flatMap rty ++ [SV.sc (.int .i64 0), SV.sc (.string ⟨#[]⟩), SV.slice .imm 0 []]))).set id (.cells [.arr a (va + 1) (R.length + 1), .arr b vb R.length]) ++ [.cells [SV.sc (.int .i64 0), SV.sc (.string ⟨#[]⟩), SV.slice .full 0 []]]),
    ([7, 9, 12], (st.set a (.arr (va + 1) 3 (R.flatMap rty ++ [SV.sc (.int .i64 0), SV.sc (.string ⟨#[]⟩), SV.slice .full 0 []]))).set id (.cells [.arr a (va + 1) (R.length + 1), .arr b vb R.length]) ++ [.cells [SV.sc (.int .i64 0), SV.sc (.string ⟨#[]⟩), SV.slice .full 0 []]])]
    [[[]], [[]], [[]], [[]], [[]], [[]], [[]], [[]], [[7], [7, 12]], [[7], [7, 12]], [[7], [7, 9]], [[7], [7, 9]], [[7], [7, 9]]] Tryd.mixed rfl rfl rfl rfl rfl ?_
  refine dD_p1 rfl (.ptr id 0) (by simp only [go_sem, imp_self, implies_true, reduceCtorEq, false_imp_iff, true_imp_iff, decide_true, decide_false, Int.toNat_natCast, Int.toNat_zero, Int.toNat_one, Int.natCast_nonneg, Int.le_refl, Nat.le_refl, Nat.reduceAdd, Nat.reduceMul, Nat.reduceLeDiff, Nat.reduceLT, Int.reduceLE, Int.reduceLT, Int.reduceEq, Nat.reduceBEq, Nat.reduceEqDiff, Bool.not_true, Bool.not_false, Bool.and_false, Bool.false_and, Bool.or_true, Bool.true_or, Bool.or_false, Bool.false_or, call_funcH, c_drawH, c_loopH, gAll_F, gIf_F, pickB_true, pickB_false, Array.toList_append, List.cons_append, List.nil_append, opTmps, List.contains_cons, List.contains_nil]) ?_
  refine dD_p1 rfl (.ptr id 0) (by simp only [go_sem, imp_self, implies_true, reduceCtorEq, false_imp_iff, true_imp_iff, decide_true, decide_false, Int.toNat_natCast, Int.toNat_zero, Int.toNat_one, Int.natCast_nonneg, Int.le_refl, Nat.le_refl, Nat.reduceAdd, Nat.reduceMul, Nat.reduceLeDiff, Nat.reduceLT, Int.reduceLE, Int.reduceLT, Int.reduceEq, Nat.reduceBEq, Nat.reduceEqDiff, Bool.not_true, Bool.not_false, Bool.and_false, Bool.false_and, Bool.or_true, Bool.true_or, Bool.or_false, Bool.false_or, call_funcH, c_drawH, c_loopH, gAll_F, gIf_F, pickB_true, pickB_false, Array.toList_append, List.cons_append, List.nil_append, opTmps, List.contains_cons, List.contains_nil]) ?_
  refine dD_p1 rfl (.ptr id 0) (by simp only [go_sem, imp_self, implies_true, reduceCtorEq, false_imp_iff, true_imp_iff, decide_true, decide_false, Int.toNat_natCast, Int.toNat_zero, Int.toNat_one, Int.natCast_nonneg, Int.le_refl, Nat.le_refl, Nat.reduceAdd, Nat.reduceMul, Nat.reduceLeDiff, Nat.reduceLT, Int.reduceLE, Int.reduceLT, Int.reduceEq, Nat.reduceBEq, Nat.reduceEqDiff, Bool.not_true, Bool.not_false, Bool.and_false, Bool.false_and, Bool.or_true, Bool.true_or, Bool.or_false, Bool.false_or, call_funcH, c_drawH, c_loopH, gAll_F, gIf_F, pickB_true, pickB_false, Array.toList_append, List.cons_append, List.nil_append, opTmps, List.contains_cons, List.contains_nil]) ?_
  refine dD_p1 rfl (.arr a va R.length) (by simp only [go_sem, imp_self, implies_true, reduceCtorEq, false_imp_iff, true_imp_iff, decide_true, decide_false, Int.toNat_natCast, Int.toNat_zero, Int.toNat_one, Int.natCast_nonneg, Int.le_refl, Nat.le_refl, Nat.reduceAdd, Nat.reduceMul, Nat.reduceLeDiff, Nat.reduceLT, Int.reduceLE, Int.reduceLT, Int.reduceEq, Nat.reduceBEq, Nat.reduceEqDiff, Bool.not_true, Bool.not_false, Bool.and_false, Bool.false_and, Bool.or_true, Bool.true_or, Bool.or_false, Bool.false_or, call_funcH, c_drawH, c_loopH, gAll_F, gIf_F, pickB_true, pickB_false, Array.toList_append, List.cons_append, List.nil_append, opTmps, List.contains_cons, List.contains_nil, f1, f2, f3]) ?_
  refine dD_p1 rfl (.agg [SV.sc (.int .i64 0), SV.sc (.string ⟨#[]⟩), SV.slice .full 0 []]) (by simp only [go_sem, imp_self, implies_true, reduceCtorEq, false_imp_iff, true_imp_iff, decide_true, decide_false, Int.toNat_natCast, Int.toNat_zero, Int.toNat_one, Int.natCast_nonneg, Int.le_refl, Nat.le_refl, Nat.reduceAdd, Nat.reduceMul, Nat.reduceLeDiff, Nat.reduceLT, Int.reduceLE, Int.reduceLT, Int.reduceEq, Nat.reduceBEq, Nat.reduceEqDiff, Bool.not_true, Bool.not_false, Bool.and_false, Bool.false_and, Bool.or_true, Bool.true_or, Bool.or_false, Bool.false_or, call_funcH, c_drawH, c_loopH, gAll_F, gIf_F, pickB_true, pickB_false, Array.toList_append, List.cons_append, List.nil_append, opTmps, List.contains_cons, List.contains_nil]; refine ⟨_, ?_, rfl⟩; simp only [go_sem, imp_self, implies_true, reduceCtorEq, false_imp_iff, true_imp_iff, decide_true, decide_false, Int.toNat_natCast, Int.toNat_zero, Int.toNat_one, Int.natCast_nonneg, Int.le_refl, Nat.le_refl, Nat.reduceAdd, Nat.reduceMul, Nat.reduceLeDiff, Nat.reduceLT, Int.reduceLE, Int.reduceLT, Int.reduceEq, Nat.reduceBEq, Nat.reduceEqDiff, Bool.not_true, Bool.not_false, Bool.and_false, Bool.false_and, Bool.or_true, Bool.true_or, Bool.or_false, Bool.false_or, call_funcH, c_drawH, c_loopH, gAll_F, gIf_F, pickB_true, pickB_false, Array.toList_append, List.cons_append, List.nil_append, opTmps, List.contains_cons, List.contains_nil]; exact ⟨⟨[], by simp⟩, ids_z _ _ (.inr rfl), .inl rfl⟩) ?_
  refine dD_p1 rfl (.sc (.int .i64 R.length)) (by simp only [go_sem, imp_self, implies_true, reduceCtorEq, false_imp_iff, true_imp_iff, decide_true, decide_false, Int.toNat_natCast, Int.toNat_zero, Int.toNat_one, Int.natCast_nonneg, Int.le_refl, Nat.le_refl, Nat.reduceAdd, Nat.reduceMul, Nat.reduceLeDiff, Nat.reduceLT, Int.reduceLE, Int.reduceLT, Int.reduceEq, Nat.reduceBEq, Nat.reduceEqDiff, Bool.not_true, Bool.not_false, Bool.and_false, Bool.false_and, Bool.or_true, Bool.true_or, Bool.or_false, Bool.false_or, call_funcH, c_drawH, c_loopH, gAll_F, gIf_F, pickB_true, pickB_false, Array.toList_append, List.cons_append, List.nil_append, opTmps, List.contains_cons, List.contains_nil, f1, f2, f3, g1, g2, g3, g4]) ?_
  refine dD_p1 rfl (.slice .full 3 [.agg [SV.sc (.int .i64 0), SV.sc (.string ⟨#[]⟩), SV.slice .imm 0 []]]) ?_ ?_
  · simp only [go_sem, imp_self, implies_true, reduceCtorEq, false_imp_iff, true_imp_iff, decide_true, decide_false, Int.toNat_natCast, Int.toNat_zero, Int.toNat_one, Int.natCast_nonneg, Int.le_refl, Nat.le_refl, Nat.reduceAdd, Nat.reduceMul, Nat.reduceLeDiff, Nat.reduceLT, Int.reduceLE, Int.reduceLT, Int.reduceEq, Nat.reduceBEq, Nat.reduceEqDiff, Bool.not_true, Bool.not_false, Bool.and_false, Bool.false_and, Bool.or_true, Bool.true_or, Bool.or_false, Bool.false_or, call_funcH, c_drawH, c_loopH, gAll_F, gIf_F, pickB_true, pickB_false, Array.toList_append, List.cons_append, List.nil_append, opTmps, List.contains_cons, List.contains_nil]
    refine ⟨_, ?_, rfl⟩
    simp only [go_sem, imp_self, implies_true, reduceCtorEq, false_imp_iff, true_imp_iff, decide_true, decide_false, Int.toNat_natCast, Int.toNat_zero, Int.toNat_one, Int.natCast_nonneg, Int.le_refl, Nat.le_refl, Nat.reduceAdd, Nat.reduceMul, Nat.reduceLeDiff, Nat.reduceLT, Int.reduceLE, Int.reduceLT, Int.reduceEq, Nat.reduceBEq, Nat.reduceEqDiff, Bool.not_true, Bool.not_false, Bool.and_false, Bool.false_and, Bool.or_true, Bool.true_or, Bool.or_false, Bool.false_or, call_funcH, c_drawH, c_loopH, gAll_F, gIf_F, pickB_true, pickB_false, Array.toList_append, List.cons_append, List.nil_append, opTmps, List.contains_cons, List.contains_nil]
    refine ⟨⟨[], by simp⟩, ids_slice (.inr rfl) ?_, .inl rfl⟩
    intro x hx y hy
    simp only [List.mem_singleton] at hx
    subst hx
    have h1 := ids_z (st ++ [Ob.cells [SV.sc (.int .i64 0), SV.sc (.string ⟨#[]⟩), SV.slice .full 0 []]]).length .imm (.inl rfl)
    rw [ids_agg] at h1
    exact h1 y hy
  refine dD_t1 (d := [7]) rfl rfl (.arr a (va + 1) (R.length + 1)) rfl ?_ ?_
  · simp only [go_sem, imp_self, implies_true, reduceCtorEq, false_imp_iff, true_imp_iff, decide_true, decide_false, Int.toNat_natCast, Int.toNat_zero, Int.toNat_one, Int.natCast_nonneg, Int.le_refl, Nat.le_refl, Nat.reduceAdd, Nat.reduceMul, Nat.reduceLeDiff, Nat.reduceLT, Int.reduceLE, Int.reduceLT, Int.reduceEq, Nat.reduceBEq, Nat.reduceEqDiff, Bool.not_true, Bool.not_false, Bool.and_false, Bool.false_and, Bool.or_true, Bool.true_or, Bool.or_false, Bool.false_or, call_funcH, c_drawH, c_loopH, gAll_F, gIf_F, pickB_true, pickB_false, Array.toList_append, List.cons_append, List.nil_append, opTmps, List.contains_cons, List.contains_nil, f1, f2, f3, g1, g2, g3, g4, n1, n1', List.flatMap_cons, List.flatMap_nil, htk]
    exact happ
  refine dD_p2 rfl (.aptr a (va + 1) (R.length * 3)) ?_ ?_ ?_
  · simp only [go_sem, imp_self, implies_true, reduceCtorEq, false_imp_iff, true_imp_iff, decide_true, decide_false, Int.toNat_natCast, Int.toNat_zero, Int.toNat_one, Int.natCast_nonneg, Int.le_refl, Nat.le_refl, Nat.reduceAdd, Nat.reduceMul, Nat.reduceLeDiff, Nat.reduceLT, Int.reduceLE, Int.reduceLT, Int.reduceEq, Nat.reduceBEq, Nat.reduceEqDiff, Bool.not_true, Bool.not_false, Bool.and_false, Bool.false_and, Bool.or_true, Bool.true_or, Bool.or_false, Bool.false_or, call_funcH, c_drawH, c_loopH, gAll_F, gIf_F, pickB_true, pickB_false, Array.toList_append, List.cons_append, List.nil_append, opTmps, List.contains_cons, List.contains_nil, f1, f2, f3, g1, g2, g3, g4, n1, n1', hlt]
  · simp only [go_sem, imp_self, implies_true, reduceCtorEq, false_imp_iff, true_imp_iff, decide_true, decide_false, Int.toNat_natCast, Int.toNat_zero, Int.toNat_one, Int.natCast_nonneg, Int.le_refl, Nat.le_refl, Nat.reduceAdd, Nat.reduceMul, Nat.reduceLeDiff, Nat.reduceLT, Int.reduceLE, Int.reduceLT, Int.reduceEq, Nat.reduceBEq, Nat.reduceEqDiff, Bool.not_true, Bool.not_false, Bool.and_false, Bool.false_and, Bool.or_true, Bool.true_or, Bool.or_false, Bool.false_or, call_funcH, c_drawH, c_loopH, gAll_F, gIf_F, pickB_true, pickB_false, Array.toList_append, List.cons_append, List.nil_append, opTmps, List.contains_cons, List.contains_nil, f1, f2, f3, g1, g2, g3, g4, n1, n1', hlt]
  refine dD_t2 (d := [7, 9]) (d2 := [7, 9, 12]) rfl rfl rfl .any rfl ?_ ?_ ?_
  · simp only [go_sem, imp_self, implies_true, reduceCtorEq, false_imp_iff, true_imp_iff, decide_true, decide_false, Int.toNat_natCast, Int.toNat_zero, Int.toNat_one, Int.natCast_nonneg, Int.le_refl, Nat.le_refl, Nat.reduceAdd, Nat.reduceMul, Nat.reduceLeDiff, Nat.reduceLT, Int.reduceLE, Int.reduceLT, Int.reduceEq, Nat.reduceBEq, Nat.reduceEqDiff, Bool.not_true, Bool.not_false, Bool.and_false, Bool.false_and, Bool.or_true, Bool.true_or, Bool.or_false, Bool.false_or, call_funcH, c_drawH, c_loopH, gAll_F, gIf_F, pickB_true, pickB_false, Array.toList_append, List.cons_append, List.nil_append, opTmps, List.contains_cons, List.contains_nil, f1, f2, f3, g1, g2, g3, g4, n1, n1', hlt, ht1, hd1]
    omega
  · simp only [go_sem, imp_self, implies_true, reduceCtorEq, false_imp_iff, true_imp_iff, decide_true, decide_false, Int.toNat_natCast, Int.toNat_zero, Int.toNat_one, Int.natCast_nonneg, Int.le_refl, Nat.le_refl, Nat.reduceAdd, Nat.reduceMul, Nat.reduceLeDiff, Nat.reduceLT, Int.reduceLE, Int.reduceLT, Int.reduceEq, Nat.reduceBEq, Nat.reduceEqDiff, Bool.not_true, Bool.not_false, Bool.and_false, Bool.false_and, Bool.or_true, Bool.true_or, Bool.or_false, Bool.false_or, call_funcH, c_drawH, c_loopH, gAll_F, gIf_F, pickB_true, pickB_false, Array.toList_append, List.cons_append, List.nil_append, opTmps, List.contains_cons, List.contains_nil, f1, f2, f3, g1, g2, g3, g4, n1, n1', hlt, ht1, hd1]
    refine ⟨by omega, ?_⟩
    rw [List.set_comm _ _ n1, set_set_same]
  refine dD_p2 rfl (.ptr id 0) (by simp only [go_sem, imp_self, implies_true, reduceCtorEq, false_imp_iff, true_imp_iff, decide_true, decide_false, Int.toNat_natCast, Int.toNat_zero, Int.toNat_one, Int.natCast_nonneg, Int.le_refl, Nat.le_refl, Nat.reduceAdd, Nat.reduceMul, Nat.reduceLeDiff, Nat.reduceLT, Int.reduceLE, Int.reduceLT, Int.reduceEq, Nat.reduceBEq, Nat.reduceEqDiff, Bool.not_true, Bool.not_false, Bool.and_false, Bool.false_and, Bool.or_true, Bool.true_or, Bool.or_false, Bool.false_or, call_funcH, c_drawH, c_loopH, gAll_F, gIf_F, pickB_true, pickB_false, Array.toList_append, List.cons_append, List.nil_append, opTmps, List.contains_cons, List.contains_nil]) (by simp only [go_sem, imp_self, implies_true, reduceCtorEq, false_imp_iff, true_imp_iff, decide_true, decide_false, Int.toNat_natCast, Int.toNat_zero, Int.toNat_one, Int.natCast_nonneg, Int.le_refl, Nat.le_refl, Nat.reduceAdd, Nat.reduceMul, Nat.reduceLeDiff, Nat.reduceLT, Int.reduceLE, Int.reduceLT, Int.reduceEq, Nat.reduceBEq, Nat.reduceEqDiff, Bool.not_true, Bool.not_false, Bool.and_false, Bool.false_and, Bool.or_true, Bool.true_or, Bool.or_false, Bool.false_or, call_funcH, c_drawH, c_loopH, gAll_F, gIf_F, pickB_true, pickB_false, Array.toList_append, List.cons_append, List.nil_append, opTmps, List.contains_cons, List.contains_nil]) ?_
  refine dD_p2 rfl (.ptr id 0) (by simp only [go_sem, imp_self, implies_true, reduceCtorEq, false_imp_iff, true_imp_iff, decide_true, decide_false, Int.toNat_natCast, Int.toNat_zero, Int.toNat_one, Int.natCast_nonneg, Int.le_refl, Nat.le_refl, Nat.reduceAdd, Nat.reduceMul, Nat.reduceLeDiff, Nat.reduceLT, Int.reduceLE, Int.reduceLT, Int.reduceEq, Nat.reduceBEq, Nat.reduceEqDiff, Bool.not_true, Bool.not_false, Bool.and_false, Bool.false_and, Bool.or_true, Bool.true_or, Bool.or_false, Bool.false_or, call_funcH, c_drawH, c_loopH, gAll_F, gIf_F, pickB_true, pickB_false, Array.toList_append, List.cons_append, List.nil_append, opTmps, List.contains_cons, List.contains_nil]) (by simp only [go_sem, imp_self, implies_true, reduceCtorEq, false_imp_iff, true_imp_iff, decide_true, decide_false, Int.toNat_natCast, Int.toNat_zero, Int.toNat_one, Int.natCast_nonneg, Int.le_refl, Nat.le_refl, Nat.reduceAdd, Nat.reduceMul, Nat.reduceLeDiff, Nat.reduceLT, Int.reduceLE, Int.reduceLT, Int.reduceEq, Nat.reduceBEq, Nat.reduceEqDiff, Bool.not_true, Bool.not_false, Bool.and_false, Bool.false_and, Bool.or_true, Bool.true_or, Bool.or_false, Bool.false_or, call_funcH, c_drawH, c_loopH, gAll_F, gIf_F, pickB_true, pickB_false, Array.toList_append, List.cons_append, List.nil_append, opTmps, List.contains_cons, List.contains_nil]) ?_
  refine dD_t2 (d := [7, 12]) (d2 := [7, 9, 12]) rfl rfl rfl .any rfl ?_ ?_ ?_
  · simp only [go_sem, imp_self, implies_true, reduceCtorEq, false_imp_iff, true_imp_iff, decide_true, decide_false, Int.toNat_natCast, Int.toNat_zero, Int.toNat_one, Int.natCast_nonneg, Int.le_refl, Nat.le_refl, Nat.reduceAdd, Nat.reduceMul, Nat.reduceLeDiff, Nat.reduceLT, Int.reduceLE, Int.reduceLT, Int.reduceEq, Nat.reduceBEq, Nat.reduceEqDiff, Bool.not_true, Bool.not_false, Bool.and_false, Bool.false_and, Bool.or_true, Bool.true_or, Bool.or_false, Bool.false_or, call_funcH, c_drawH, c_loopH, gAll_F, gIf_F, pickB_true, pickB_false, Array.toList_append, List.cons_append, List.nil_append, opTmps, List.contains_cons, List.contains_nil, f1, f2, f3, g1, g2, g3, g4, n1, n1']
  · simp only [go_sem, imp_self, implies_true, reduceCtorEq, false_imp_iff, true_imp_iff, decide_true, decide_false, Int.toNat_natCast, Int.toNat_zero, Int.toNat_one, Int.natCast_nonneg, Int.le_refl, Nat.le_refl, Nat.reduceAdd, Nat.reduceMul, Nat.reduceLeDiff, Nat.reduceLT, Int.reduceLE, Int.reduceLT, Int.reduceEq, Nat.reduceBEq, Nat.reduceEqDiff, Bool.not_true, Bool.not_false, Bool.and_false, Bool.false_and, Bool.or_true, Bool.true_or, Bool.or_false, Bool.false_or, call_funcH, c_drawH, c_loopH, gAll_F, gIf_F, pickB_true, pickB_false, Array.toList_append, List.cons_append, List.nil_append, opTmps, List.contains_cons, List.contains_nil, f1, f2, f3, g1, g2, g3, g4, n1, n1']
  refine dD_end ?_
  have hlen1 : (R.map fun x => SV.sc (.bool x.isSome)).take (R.length * 1) = R.map fun x => SV.sc (.bool x.isSome) := List.take_of_length_le (by simp)
  have happ2 : AppOk Tryd.prog 48 48 1 (R.length + 1) := app1b (by omega)
  simp only [go_sem, imp_self, implies_true, reduceCtorEq, false_imp_iff, true_imp_iff, decide_true, decide_false, Int.toNat_natCast, Int.toNat_zero, Int.toNat_one, Int.natCast_nonneg, Int.le_refl, Nat.le_refl, Nat.reduceAdd, Nat.reduceMul, Nat.reduceLeDiff, Nat.reduceLT, Int.reduceLE, Int.reduceLT, Int.reduceEq, Nat.reduceBEq, Nat.reduceEqDiff, Bool.not_true, Bool.not_false, Bool.and_false, Bool.false_and, Bool.or_true, Bool.true_or, Bool.or_false, Bool.false_or, call_funcH, c_drawH, c_loopH, gAll_F, gIf_F, pickB_true, pickB_false, Array.toList_append, List.cons_append, List.nil_append, opTmps, List.contains_cons, List.contains_nil, f1, f2, f3, g1, g2, g3, g4, n1, n1', k1, k2, k3, k4, n2, n2', n3, n3', hlen1]
  refine ⟨happ2, _, _, rfl, ?_, by simp only [norm, List.map_cons, List.map_nil, norm1]; exact ids_agg3 _ _ _ _ (.inl rfl), _, ?_, h _ ⟨?_, ?_, ?_, n3⟩ (by simp) (fun j j1 j2 j3 => ?_)⟩
  · refine ((((Mod.refl st).set a _ ?_).set id _ ?_).set b _ ?_).set id _ ?_
    · rw [obIds_arr]
      intro x hx
      rcases List.mem_append.1 hx with h1 | h1
      · exact ids_rty _ R x h1
      · exact ids_rty _ [none] x h1
    · simp only [obIds_cells, List.forall_mem_cons, ids_arr_eq, List.length_set]
      exact ⟨inS_get hR.ha, inS_get hR.hb, fun x hx => by cases hx⟩
    · rw [obIds_arr]
      intro x hx
      rcases List.mem_append.1 hx with h1 | h1
      · obtain ⟨y, _, rfl⟩ := List.mem_map.1 h1; exact .sc _
      · simp [SV.cells] at h1; subst h1; exact .sc _
    · simp only [obIds_cells, List.forall_mem_cons, ids_arr_eq, List.length_set]
      exact ⟨inS_get hR.ha, inS_get hR.hb, fun x hx => by cases hx⟩
  · simp only [norm, List.map_cons, List.map_nil, norm1]
    rw [tySV_eq]
    exact SVle.agg (.cons (SVle.refl _) (.cons (SVle.refl _) (.cons (SVle.nil _ _ _ (.inr rfl)) .nil)))
  · have := lt_of_get hR.hid; rw [set_get (by simpa using this)]; simp
  · rw [List.getElem?_set_ne n1, List.getElem?_set_ne n3', List.getElem?_set_ne n1, get_setS hR.ha, List.flatMap_append]; rfl
  · rw [List.getElem?_set_ne n2, set_get, List.map_append]
    · rfl
    · simp; exact inS_get hR.hb
  · rw [List.getElem?_set_ne (Ne.symm j1), List.getElem?_set_ne (Ne.symm j3), List.getElem?_set_ne (Ne.symm j1), List.getElem?_set_ne (Ne.symm j2)]

end Go.Proofs
