/- The engine: Begin. -/
import Derived.Test.YteclbnjpijakbaaW3
import Derived.Test.YteclbnjpijakbaaA8
set_option linter.unusedSimpArgs false
set_option maxRecDepth 8000
namespace Go.Proofs
open Go Go.AL

def beginF (E : EP) (t : Int) : Int × EP := if 0 ≤ t ∧ t < 8 ∧ (E.txs[t.toNat]?).join.isNone = true then (0, { E with txs := E.txs.set t.toNat (some ⟨E.clock, 0, [], [fun _ => none], false, false, []⟩) }) else (1, E)

theorem abs_get (E : EG) (t : Nat) : ((E.abs.txs[t]?).join) = ((E.txs[t]?).join).map TX.abs := by
  show ((E.txs.map (Option.map TX.abs))[t]?).join = _
  rw [List.getElem?_map]
  cases E.txs[t]? with
  | none => rfl
  | some o => cases o <;> rfl

theorem ids_full0 (n z : Nat) : Ids n (.slice .full z []) := .slice _ _ _ (fun _ _ e => by cases e) (fun i j hi => absurd hi (Nat.not_lt_zero _))

def bornX (E : EG) (n : Nat) : TX := ⟨n + 2, n + 3, 0, n + 1, 1, [n], E.clock, 0, [], [[]], false, false, []⟩

theorem getElem?_app2 {st : St} {o : Ob} {E : Nat} {l : St} {i : Nat} (h : E < st.length) (hi : st.length ≤ i) : (st.set E o ++ l)[i]? = l[i - st.length]? := by
  rw [List.getElem?_append_right (by simpa using hi), List.length_set]

theorem begin_end {st : St} {E : EG} (hE : EngAt st E) {t : Nat} (ht : t < 8) (ho : E.txs[t]? = some none) {K : SV → St → Prop}
    (h : ∀ s E', EngAt s E' → Fr st E s E' → E'.abs = { E.abs with txs := E.abs.txs.set t (some ⟨E.clock, 0, [], [fun _ => none], false, false, []⟩) } → K (.sc (.int .i64 0)) s) :
    ∃ s2, Conv (st.set E.id (.cells (E.cells.take (2 + t) ++ .ptr (st.length + 2) 0 :: E.cells.drop (2 + (t + 1)))) ++ [Ob.map [], Ob.arr 1 1 [.mp st.length],
      Ob.cells [i64 E.clock, i64 0, .slice .full 0 [], .arr (st.length + 1) 1 1, .sc (.bool false), .sc (.bool false), .slice .full 0 []]]) s2 ∧ K (.sc (.int .i64 0)) s2 := by
  have hl := hE.len
  have hlt := lt_of_get hE.cells
  have hvt := lt_of_get hE.vars
  have hce : E.cells.take (2 + t) ++ .ptr (st.length + 2) 0 :: E.cells.drop (2 + (t + 1)) = ({ E with txs := E.txs.set t (some (bornX E st.length)) } : EG).cells := by
    unfold EG.cells
    rw [show 2 + t = t + 1 + 1 by omega, show 2 + (t + 1) = (t + 1) + 1 + 1 by omega]
    simp only [List.take_succ_cons, List.drop_succ_cons, List.cons_append, List.map_set]
    congr 2
    rw [List.set_eq_take_append_cons_drop, if_pos (by simp; omega)]
    rfl
  rw [hce]
  generalize hE' : ({ E with txs := E.txs.set t (some (bornX E st.length)) } : EG) = E'
  have hst : st.set E.id (.cells E'.cells) = st.set E.id (.cells E'.cells) := rfl
  have h0 : (st.set E.id (.cells E'.cells) ++ [Ob.map [], Ob.arr 1 1 [.mp st.length],
      Ob.cells [i64 E.clock, i64 0, .slice .full 0 [], .arr (st.length + 1) 1 1, .sc (.bool false), .sc (.bool false), .slice .full 0 []]])[st.length + 2]? = some (.cells [i64 E.clock, i64 0, .slice .full 0 [], .arr (st.length + 1) 1 1, .sc (.bool false), .sc (.bool false), .slice .full 0 []]) := by
    rw [getElem?_app2 hlt (by omega), show st.length + 2 - st.length = 2 by omega]; rfl
  have c1 := conv_ownC (st.length + 2) 2 1 0 h0 (by simp) rfl
  have e1 : (st.set E.id (.cells E'.cells) ++ [Ob.map [], Ob.arr 1 1 [.mp st.length],
      Ob.cells [i64 E.clock, i64 0, .slice .full 0 [], .arr (st.length + 1) 1 1, .sc (.bool false), .sc (.bool false), .slice .full 0 []]]).length = st.length + 3 := by simp
  rw [e1] at c1
  rw [List.set_append_right _ _ (by simp)] at c1
  simp only [List.length_set, show st.length + 2 - st.length = 2 by omega, List.set_cons_succ, List.set_cons_zero, List.append_assoc, List.cons_append, List.nil_append] at c1
  have h1 : (st.set E.id (.cells E'.cells) ++ [Ob.map [], Ob.arr 1 1 [.mp st.length],
      Ob.cells [i64 E.clock, i64 0, .slice (.own (st.length + 3) 0) 1 [], .arr (st.length + 1) 1 1, .sc (.bool false), .sc (.bool false), .slice .full 0 []], Ob.tok 0])[st.length + 2]? = some (.cells [i64 E.clock, i64 0, .slice (.own (st.length + 3) 0) 1 [], .arr (st.length + 1) 1 1, .sc (.bool false), .sc (.bool false), .slice .full 0 []]) := by
    rw [getElem?_app2 hlt (by omega), show st.length + 2 - st.length = 2 by omega]; rfl
  have c2 := conv_as (st.length + 2) 6 (.slice .imm 1 []) h1 (by simp) (fun σ w v hr => rep_nil_imm hr)
  rw [List.set_append_right _ _ (by simp)] at c2
  simp only [List.length_set, show st.length + 2 - st.length = 2 by omega, List.set_cons_succ, List.set_cons_zero] at c2
  refine ⟨_, c1.trans c2, ?_⟩
  generalize hs : st.set E.id (.cells E'.cells) ++ _ = s
  have hsl : s.length = st.length + 4 := by rw [← hs]; simp
  have g : ∀ i, st.length ≤ i → s[i]? = [Ob.map [], Ob.arr 1 1 [.mp st.length], Ob.cells (bornX E st.length).cells, Ob.tok 0][i - st.length]? := by
    intro i hi
    rw [← hs, getElem?_app2 hlt hi]; rfl
  have g0 : ∀ i, i < st.length → i ≠ E.id → s[i]? = st[i]? := by
    intro i hi hn
    rw [← hs, List.getElem?_append_left (by simpa using hi), List.getElem?_set_ne (Ne.symm hn)]
  have hup := eng_upd (s := s) (E' := E') hE ht (some (bornX E st.length)) (by rw [← hE']) (by rw [← hE']) (by rw [← hE'])
    (by rw [← hs, List.getElem?_append_left (by simpa using hlt), List.getElem?_set_self hlt])
    (by rw [g0 _ hvt (Ne.symm hE.vidne), hE.vars, ← hE']) (by rw [← hE']; exact hE.many) (by omega)
    (fun j q1 q2 _ q4 => g0 j q4 q1) (fun x' hx' => by
      cases hx'
      refine ⟨⟨?_, ?_, ?_, rfl, ?_, by simp [bornX], by simp [bornX]⟩, fun j hj => .inr ?_⟩
      · show s[st.length + 2]? = _
        rw [g _ (by omega), show st.length + 2 - st.length = 2 by omega]; rfl
      · show s[st.length + 3]? = _
        rw [g _ (by omega), show st.length + 3 - st.length = 3 by omega]; rfl
      · refine ⟨[.mp st.length], ?_, Nat.le_refl _, rfl⟩
        show s[st.length + 1]? = _
        rw [g _ (by omega), show st.length + 1 - st.length = 1 by omega]; rfl
      · intro i hi
        have : i = 0 := by simpa [bornX] using hi
        subst this
        show s[st.length]? = _
        rw [g _ (by omega), show st.length - st.length = 0 by omega]; rfl
      · simp only [TX.has, bornX, List.mem_cons, List.not_mem_nil, or_false] at hj
        omega)
  refine h s E' hup.1 hup.2 ?_
  rw [← hE']
  simp only [EG.abs, List.map_set]
  rfl

set_option maxHeartbeats 4000000 in
theorem begin_c {st : St} {E : EG} (hE : EngAt st E) (t : Int) (K : SV → St → Prop)
    (h : ∀ s E', EngAt s E' → Fr st E s E' → E'.abs = (beginF E.abs t).2 → K (i64 (beginF E.abs t).1) s) : ACalls Try.prog 12 [.ptr E.id 0, i64 t] K st := by
  have f := cells_facts hE.cells
  have hlt1 := lt_of_get hE.cells
  have hlen := cells_len E hE.len
  have hbeg : beginF E.abs t = if 0 ≤ t ∧ t < 8 ∧ (E.txs[t.toNat]?).join.isNone = true then (0, { E.abs with txs := E.abs.txs.set t.toNat (some ⟨E.clock, 0, [], [fun _ => none], false, false, []⟩) }) else (1, E.abs) := by
    unfold beginF; rw [abs_get]; simp only [Option.isNone_map]; rfl
  by_cases c : 0 ≤ t ∧ t < 8
  · have c1 : (t < 0) = False := eq_false (by omega)
    have c2 : (8 ≤ t) = False := eq_false (by omega)
    have c3 : t < ((8 : Nat) : Int) := c.2
    obtain ⟨o, ho, hd⟩ := hE.txs_get (t := t.toNat) (by omega)
    cases o with
    | some x =>
      have hb : beginF E.abs t = (1, E.abs) := by rw [hbeg, if_neg]; rintro ⟨_, _, q⟩; rw [ho] at q; cases q
      rw [hb] at h
      refine acalls_go_pure [] Try.func12 rfl Try.results12 Try.ntmps12 ?_
      simp only [go_sem, reduceCtorEq, Nat.reduceAdd, Nat.reduceMul, Nat.reduceLeDiff, Nat.reduceLT, Int.reduceLE, Int.reduceLT, Int.reduceEq, Nat.reduceBEq, Nat.reduceEqDiff, f.1, f.2.1, f.2.2, c1, c2, c.1, c3, hd, Nat.mul_one, txSV]
      exact fin_sc (h st E hE (Fr.refl _ _) rfl)
    | none =>
      have hb : beginF E.abs t = (0, { E.abs with txs := E.abs.txs.set t.toNat (some ⟨E.clock, 0, [], [fun _ => none], false, false, []⟩) }) := by
        rw [hbeg, if_pos ⟨c.1, c.2, by rw [ho]; rfl⟩]
      rw [hb] at h
      refine acalls_conv ?_
      refine acalls_go (M := [29, 1000027]) Try.func12 rfl Try.results12 Try.ntmps12 ?_
      have hcl : E.cells.drop 0 = i64 E.clock :: .arr E.vid E.vver E.vars.length :: E.txs.map txSV := rfl
      have hidx : 2 + t.toNat + 1 ≤ E.cells.length := by omega
      simp only [go_sem, reduceCtorEq, Nat.reduceAdd, Nat.reduceMul, Nat.reduceLeDiff, Nat.reduceLT, Int.reduceLE, Int.reduceLT, Int.reduceEq, Nat.reduceBEq, Nat.reduceEqDiff, f.1, f.2.1, f.2.2, c1, c2, c.1, c3, hd, Nat.mul_one, txSV]
      refine awp_drawD [29, 1000027] [6, 7, 9, 13] [([], st), ([6], st ++ [.map []]), ([6, 7], st ++ [.map [], .arr 1 1 [.mp st.length]]), ([6, 7, 9], st ++ [.map [], .arr 1 1 [.mp st.length], .cells [i64 E.clock, i64 0, .slice .full 0 [], .arr (st.length + 1) 1 1, .sc (.bool false), .sc (.bool false), .slice .full 0 []]]),
        ([6, 7, 9, 13], st.set E.id (.cells (splice E.cells (2 + t.toNat) [.ptr (st.length + 2) 0])) ++ [.map [], .arr 1 1 [.mp st.length], .cells [i64 E.clock, i64 0, .slice .full 0 [], .arr (st.length + 1) 1 1, .sc (.bool false), .sc (.bool false), .slice .full 0 []]])]
        [[[], [6], [6, 7], [6, 7, 9]], [[], [6], [6, 7], [6, 7, 9]], [[], [6], [6, 7]], [[], [6], [6, 7]], [[], [6], [6, 7]], [[], [6], [6, 7]], [[]], [[6]], [[6, 7]], [[6, 7]], [[], [6], [6, 7], [6, 7, 9]], [[], [6], [6, 7], [6, 7, 9]], [[6, 7, 9]], [[6, 7, 9]]] Try.mixed rfl rfl rfl rfl rfl ?_
      refine dD_pA rfl (.ptr E.id 0) (by simp only [go_sem, reduceCtorEq, Nat.reduceAdd, Nat.reduceMul, Nat.reduceLeDiff, Nat.reduceLT, Int.reduceLE, Int.reduceLT, Int.reduceEq, Nat.reduceBEq, Nat.reduceEqDiff, look_c, eqN_nil, eqN_l, eqN_r, eqN_c, forall_cs, forall_nl]) ?_
      refine dD_pA rfl (i64 t) (by simp only [go_sem, reduceCtorEq, Nat.reduceAdd, Nat.reduceMul, Nat.reduceLeDiff, Nat.reduceLT, Int.reduceLE, Int.reduceLT, Int.reduceEq, Nat.reduceBEq, Nat.reduceEqDiff, look_c, eqN_nil, eqN_l, eqN_r, eqN_c, forall_cs, forall_nl]) ?_
      refine dD_pA rfl (.ptr E.id 0) (by simp only [go_sem, reduceCtorEq, Nat.reduceAdd, Nat.reduceMul, Nat.reduceLeDiff, Nat.reduceLT, Int.reduceLE, Int.reduceLT, Int.reduceEq, Nat.reduceBEq, Nat.reduceEqDiff, look_c, eqN_nil, eqN_l, eqN_r, eqN_c, forall_cs, forall_nl]) ?_
      refine dD_pA rfl (.ptr E.id 0) (by simp only [go_sem, reduceCtorEq, Nat.reduceAdd, Nat.reduceMul, Nat.reduceLeDiff, Nat.reduceLT, Int.reduceLE, Int.reduceLT, Int.reduceEq, Nat.reduceBEq, Nat.reduceEqDiff, look_c, eqN_nil, eqN_l, eqN_r, eqN_c, forall_cs, forall_nl]) ?_
      refine dD_pA rfl (.ptr E.id 0) (by simp only [go_sem, reduceCtorEq, Nat.reduceAdd, Nat.reduceMul, Nat.reduceLeDiff, Nat.reduceLT, Int.reduceLE, Int.reduceLT, Int.reduceEq, Nat.reduceBEq, Nat.reduceEqDiff, look_c, eqN_nil, eqN_l, eqN_r, eqN_c, forall_cs, forall_nl]) ?_
      refine dD_pA rfl (i64 E.clock) (by simp only [go_sem, reduceCtorEq, Nat.reduceAdd, Nat.reduceMul, Nat.reduceLeDiff, Nat.reduceLT, Int.reduceLE, Int.reduceLT, Int.reduceEq, Nat.reduceBEq, Nat.reduceEqDiff, look_c, eqN_nil, eqN_l, eqN_r, eqN_c, forall_cs, forall_nl, f.1, f.2.1, f.2.2, EG.cells]) ?_
      refine dD_t1 (d := [6]) rfl rfl (.mp st.length) rfl (by simp only [go_sem, reduceCtorEq, Nat.reduceAdd, Nat.reduceMul, Nat.reduceLeDiff, Nat.reduceLT, Int.reduceLE, Int.reduceLT, Int.reduceEq, Nat.reduceBEq, Nat.reduceEqDiff, look_c, eqN_nil, eqN_l, eqN_r, eqN_c, forall_cs, forall_nl]) ?_
      refine dD_t1 (d := [6, 7]) rfl rfl (.arr (st.length + 1) 1 1) rfl (by simp only [go_sem, reduceCtorEq, Nat.reduceAdd, Nat.reduceMul, Nat.reduceLeDiff, Nat.reduceLT, Int.reduceLE, Int.reduceLT, Int.reduceEq, Nat.reduceBEq, Nat.reduceEqDiff, look_c, eqN_nil, eqN_l, eqN_r, eqN_c, forall_cs, forall_nl]; rfl) ?_
      refine dD_p1 rfl (.agg [i64 E.clock, i64 0, .slice .full 0 [], .arr (st.length + 1) 1 1, .sc (.bool false), .sc (.bool false), .slice .full 0 []]) (by simp only [go_sem, reduceCtorEq, Nat.reduceAdd, Nat.reduceMul, Nat.reduceLeDiff, Nat.reduceLT, Int.reduceLE, Int.reduceLT, Int.reduceEq, Nat.reduceBEq, Nat.reduceEqDiff, look_c, eqN_nil, eqN_l, eqN_r, eqN_c, forall_cs, forall_nl]; refine ⟨_, ?_, rfl⟩; simp only [go_sem, reduceCtorEq, Nat.reduceAdd, Nat.reduceMul, Nat.reduceLeDiff, Nat.reduceLT, Int.reduceLE, Int.reduceLT, Int.reduceEq, Nat.reduceBEq, Nat.reduceEqDiff]; exact ⟨⟨[], by simp⟩, by simp only [go_sem, reduceCtorEq, Nat.reduceAdd, Nat.reduceMul, Nat.reduceLeDiff, Nat.reduceLT, Int.reduceLE, Int.reduceLT, Int.reduceEq, Nat.reduceBEq, Nat.reduceEqDiff]; exact ⟨ids_full0 _ _, by omega, ids_full0 _ _⟩, .inl rfl⟩) ?_
      refine dD_t1 (d := [6, 7, 9]) rfl rfl (.ptr (st.length + 2) 0) rfl (by simp only [go_sem, reduceCtorEq, Nat.reduceAdd, Nat.reduceMul, Nat.reduceLeDiff, Nat.reduceLT, Int.reduceLE, Int.reduceLT, Int.reduceEq, Nat.reduceBEq, Nat.reduceEqDiff, look_c, eqN_nil, eqN_l, eqN_r, eqN_c, forall_cs, forall_nl]) ?_
      refine dD_pA rfl (.ptr E.id 0) (by simp only [go_sem, reduceCtorEq, Nat.reduceAdd, Nat.reduceMul, Nat.reduceLeDiff, Nat.reduceLT, Int.reduceLE, Int.reduceLT, Int.reduceEq, Nat.reduceBEq, Nat.reduceEqDiff, look_c, eqN_nil, eqN_l, eqN_r, eqN_c, forall_cs, forall_nl]) ?_
      refine dD_pA rfl (.ptr E.id 2) (by simp only [go_sem, reduceCtorEq, Nat.reduceAdd, Nat.reduceMul, Nat.reduceLeDiff, Nat.reduceLT, Int.reduceLE, Int.reduceLT, Int.reduceEq, Nat.reduceBEq, Nat.reduceEqDiff, look_c, eqN_nil, eqN_l, eqN_r, eqN_c, forall_cs, forall_nl]) ?_
      refine dD_p1 rfl (.ptr E.id (2 + t.toNat)) (by simp only [go_sem, reduceCtorEq, Nat.reduceAdd, Nat.reduceMul, Nat.reduceLeDiff, Nat.reduceLT, Int.reduceLE, Int.reduceLT, Int.reduceEq, Nat.reduceBEq, Nat.reduceEqDiff, look_c, eqN_nil, eqN_l, eqN_r, eqN_c, forall_cs, forall_nl, c.1, c3, Nat.mul_one]) ?_
      refine dD_t1 (d := [6, 7, 9, 13]) rfl rfl .any rfl (by simp only [go_sem, reduceCtorEq, Nat.reduceAdd, Nat.reduceMul, Nat.reduceLeDiff, Nat.reduceLT, Int.reduceLE, Int.reduceLT, Int.reduceEq, Nat.reduceBEq, Nat.reduceEqDiff, look_c, eqN_nil, eqN_l, eqN_r, eqN_c, forall_cs, forall_nl, f.1, f.2.1, f.2.2]; omega) ?_
      refine dD_end ?_
      simp only [go_sem, reduceCtorEq, Nat.reduceAdd, Nat.reduceMul, Nat.reduceLeDiff, Nat.reduceLT, Int.reduceLE, Int.reduceLT, Int.reduceEq, Nat.reduceBEq, Nat.reduceEqDiff]
      exact begin_end hE (by omega) ho h
  · have hb : beginF E.abs t = (1, E.abs) := by rw [hbeg, if_neg]; rintro ⟨q1, q2, _⟩; exact c ⟨q1, q2⟩
    rw [hb] at h
    refine acalls_go_pure [] Try.func12 rfl Try.results12 Try.ntmps12 ?_
    by_cases c1 : t < 0
    · simp only [go_sem, reduceCtorEq, Nat.reduceAdd, Nat.reduceMul, Nat.reduceLeDiff, Nat.reduceLT, Int.reduceLE, Int.reduceLT, Int.reduceEq, Nat.reduceBEq, Nat.reduceEqDiff, f.1, f.2.1, f.2.2, c1]
      exact fin_sc (h st E hE (Fr.refl _ _) rfl)
    · have c2 : 8 ≤ t := by omega
      simp only [go_sem, reduceCtorEq, Nat.reduceAdd, Nat.reduceMul, Nat.reduceLeDiff, Nat.reduceLT, Int.reduceLE, Int.reduceLT, Int.reduceEq, Nat.reduceBEq, Nat.reduceEqDiff, f.1, f.2.1, f.2.2, c1, c2]
      exact fin_sc (h st E hE (Fr.refl _ _) rfl)

end Go.Proofs
