/- The engine: shut, Join, Undo. -/
import Derived.Test.YteclbnjpijakbaaW7
set_option linter.unusedSimpArgs false
set_option maxRecDepth 8000
namespace Go.Proofs
open Go Go.AL

def fmOver (f g : FM) : FM := fun k => (f k).or (g k)
def TP.drop (x : TP) : TP := { x with maps := x.maps.dropLast }
def TX.cut (x : TX) : TX := { x with mids := x.mids.dropLast, maps := x.maps.dropLast }

def shutF (E : EP) (t : Int) (j : Bool) : Int × EP := match E.opn t with
  | some x => if x.maps.length < 2 then (1, E) else (0, E.put t (if j then x.drop.setTop (fmOver x.top x.drop.top) else x.drop))
  | none => (1, E)

theorem TX.abs_len (x : TX) : x.abs.maps.length = x.maps.length := by simp [TX.abs]
theorem TX.abs_cut (x : TX) : x.cut.abs = x.abs.drop := by simp [TX.abs, TX.cut, TP.drop, List.map_dropLast]

theorem cut_at {st : St} {x : TX} (hT : TxAt st x) : TxAt (st.set x.id (.cells x.cut.cells)) x.cut := by
  have hlt1 := lt_of_get hT.cells
  have n1 : x.id ≠ x.rid := fun e => by have := hT.cells; rw [e, hT.tok] at this; cases this
  have hml := hT.len
  obtain ⟨cs, hp, hle, htk⟩ := hT.parts
  have n2 : x.id ≠ x.pid := fun e => by have := hT.cells; rw [e, hp] at this; cases this
  refine ⟨List.getElem?_set_self hlt1, ?_, ⟨cs, ?_, ?_, ?_⟩, ?_, fun i hi => ?_, ?_, fun m hm => hT.keys m ((List.dropLast_sublist _).subset hm)⟩
  · show (st.set x.id _)[x.rid]? = _
    rw [List.getElem?_set_ne n1]; exact hT.tok
  · show (st.set x.id _)[x.pid]? = _
    rw [List.getElem?_set_ne n2]; exact hp
  · simp [TX.cut]; omega
  · have e1 : x.cut.mids.length = x.mids.length - 1 := by simp [TX.cut]
    rw [e1]
    have : cs.take (x.mids.length - 1) = (cs.take x.mids.length).take (x.mids.length - 1) := by rw [List.take_take]; congr 1; omega
    rw [this, htk, ← List.map_take]
    simp [TX.cut, List.dropLast_eq_take]
  · simp [TX.cut, hml]
  · have hi' : i < x.mids.length - 1 := by simpa [TX.cut] using hi
    have h5 := hT.maps i (by omega)
    have e1 : x.cut.mids.getD i 0 = x.mids.getD i 0 := by
      simp only [TX.cut, List.getD_eq_getElem?_getD]
      rw [List.getElem?_dropLast, if_pos (by omega)]
    have e2 : x.cut.maps.getD i [] = x.maps.getD i [] := by
      simp only [TX.cut, List.getD_eq_getElem?_getD]
      rw [List.getElem?_dropLast, if_pos (by omega)]
    rw [e1, e2, List.getElem?_set_ne (hT.ne_map h5).1.symm]
    exact h5
  · exact hT.nodup.sublist (List.dropLast_sublist _)

theorem cut_eng {st : St} {E : EG} (hE : EngAt st E) {t : Nat} (ht : t < 8) {x : TX} (hx : E.txs[t]? = some (some x)) :
    EngAt (st.set x.id (.cells x.cut.cells)) (E.setTx t x.cut) ∧ Fr st E (st.set x.id (.cells x.cut.cells)) (E.setTx t x.cut) := by
  refine eng_tx hE ht hx rfl (by simp) (fun j hj _ => List.getElem?_set_ne (fun e => hj (.inl e.symm))) (cut_at (hE.tx _ _ hx)) fun j hj => .inl ?_
  rcases hj with hj | hj | hj | hj
  · exact .inl hj
  · exact .inr (.inl hj)
  · exact .inr (.inr (.inl hj))
  · exact .inr (.inr (.inr ((List.dropLast_sublist _).subset hj)))

set_option maxHeartbeats 4000000 in
theorem shut_c {st : St} {E : EG} (hE : EngAt st E) (hF : Fine E) (t : Int) (j : Bool) (K : SV → St → Prop)
    (h : ∀ s E', EngAt s E' → Fr st E s E' → E'.abs = (shutF E.abs t j).2 → K (i64 (shutF E.abs t j).1) s) : ACalls Try.prog 49 [.ptr E.id 0, i64 t, .sc (.bool j)] K st := by
  have hopn := open_c hE t
  have hab := abs_opn E t
  unfold shutF at h
  rw [hab] at h
  cases hx : E.opn t with
  | none =>
    rw [hx] at hopn h
    refine acalls_go (M := []) Try.func49 rfl Try.results49 Try.ntmps49 ?_
    simp only [go_sem, reduceCtorEq, Nat.reduceAdd, Nat.reduceMul, Nat.reduceLeDiff, Nat.reduceLT, Int.reduceLE, Int.reduceLT, Int.reduceEq, Nat.reduceBEq, Nat.reduceEqDiff]
    refine hopn _ ?_
    simp only [txSV, go_sem, reduceCtorEq, Nat.reduceAdd, Nat.reduceMul, Nat.reduceLeDiff, Nat.reduceLT, Int.reduceLE, Int.reduceLT, Int.reduceEq, Nat.reduceBEq, Nat.reduceEqDiff]
    exact h st E hE (Fr.refl _ _) rfl
  | some x =>
    rw [hx] at hopn h
    simp only [Option.map_some, TX.abs_len] at h
    obtain ⟨ht, htx⟩ := of_opn hx
    have hT := hE.tx _ x htx
    have h1 := hF.one _ x htx
    have h2 := (hF.reads _ x htx).2.2
    have hml := hT.len
    have g := cells_facts hT.cells
    have hlt1 := lt_of_get hT.cells
    obtain ⟨cs, hp, hle, htk⟩ := hT.parts
    have w := arr_facts hp
    by_cases c : x.maps.length < 2
    · have c' : ((x.mids.length : Int) < 2) = True := eq_true (by omega)
      rw [if_pos c] at h
      refine acalls_go (M := []) Try.func49 rfl Try.results49 Try.ntmps49 ?_
      simp only [go_sem, reduceCtorEq, Nat.reduceAdd, Nat.reduceMul, Nat.reduceLeDiff, Nat.reduceLT, Int.reduceLE, Int.reduceLT, Int.reduceEq, Nat.reduceBEq, Nat.reduceEqDiff]
      refine hopn _ ?_
      simp only [txSV, go_sem, reduceCtorEq, Nat.reduceAdd, Nat.reduceMul, Nat.reduceLeDiff, Nat.reduceLT, Int.reduceLE, Int.reduceLT, Int.reduceEq, Nat.reduceBEq, Nat.reduceEqDiff, g.1, g.2.1, g.2.2, TX.cells, w.1, w.2.1, w.2.2.1, w.2.2.2, c']
      exact h st E hE (Fr.refl _ _) rfl
    · have c' : ((x.mids.length : Int) < 2) = False := eq_false (by omega)
      rw [if_neg c] at h
      have hlast := last_c hT h1 h2
      have hw1 : IntKind.i64.wrap ((x.mids.length : Int) - 1) = ((x.mids.length - 1 : Nat) : Int) := by rw [IntWalk.i64_in _ (by omega)]; omega
      have hcut : List.set st x.id (.cells [i64 x.start, i64 x.stamp, .slice (.own x.rid x.rver) 1 (x.reads.map i64), .arr x.pid x.pver (x.mids.length - 1), .sc (.bool x.commits), .sc (.bool x.pointed), .slice .imm 1 (x.left.map i64)]) = List.set st x.id (.cells x.cut.cells) := by
        simp only [TX.cells, TX.cut, List.length_dropLast]
      obtain ⟨s1, hs1⟩ : ∃ s1, s1 = List.set st x.id (.cells x.cut.cells) := ⟨_, rfl⟩
      have hT1 := cut_at hT
      have key := cut_eng hE ht htx
      have hx1 : (E.setTx t.toNat x.cut).txs[t.toNat]? = some (some x.cut) := by
        show (E.txs.set _ _)[_]? = _
        rw [List.getElem?_set_self (lt_of_get htx)]
      have h11 : 1 ≤ x.cut.mids.length := by simp [TX.cut]; omega
      have hlast1 := last_c hT1 h11 (by simp [TX.cut]; omega)
      have hat1 := top_at hT1 h11
      have hat0 : (st.set x.id (.cells x.cut.cells))[x.top]? = some (.map (pmEs x.topM)) := by
        have h9 := top_at hT h1
        rw [List.getElem?_set_ne (hT.ne_map h9).1.symm]; exact h9
      have hne : x.cut.top ≠ x.top := by
        intro e
        have e1 : x.cut.top = x.mids.getD (x.mids.length - 2) 0 := by
          simp only [TX.top, TX.cut, List.length_dropLast, List.getD_eq_getElem?_getD]
          rw [List.getElem?_dropLast, if_pos (by omega)]
          rfl
        rw [e1] at e
        have := getD_inj hT.nodup (by omega) (by omega) e
        omega
      have hcopy := copy_c hat1 hat0 hne (topM_keys hT1 h11) (topM_keys hT h1)
      refine acalls_go (M := []) Try.func49 rfl Try.results49 Try.ntmps49 ?_
      simp only [go_sem, reduceCtorEq, Nat.reduceAdd, Nat.reduceMul, Nat.reduceLeDiff, Nat.reduceLT, Int.reduceLE, Int.reduceLT, Int.reduceEq, Nat.reduceBEq, Nat.reduceEqDiff]
      refine hopn _ ?_
      simp only [txSV, go_sem, reduceCtorEq, Nat.reduceAdd, Nat.reduceMul, Nat.reduceLeDiff, Nat.reduceLT, Int.reduceLE, Int.reduceLT, Int.reduceEq, Nat.reduceBEq, Nat.reduceEqDiff, g.1, g.2.1, g.2.2, TX.cells, w.1, w.2.1, w.2.2.1, w.2.2.2, c']
      refine hlast _ ?_
      simp only [go_sem, reduceCtorEq, Nat.reduceAdd, Nat.reduceMul, Nat.reduceLeDiff, Nat.reduceLT, Int.reduceLE, Int.reduceLT, Int.reduceEq, Nat.reduceBEq, Nat.reduceEqDiff]
      refine awp_drawD [] [14] [([], st), ([14], st.set x.id (.cells x.cut.cells))] [[[]], [[]], [[]], [[]], [[]], [[]], [[]], [[]], [[]], [[]], [[]], [[]], [[]], [[]], [[]]] Try.mixed rfl rfl rfl rfl rfl ?_
      refine dD_pA rfl (.ptr x.id 0) (by simp only [go_sem, reduceCtorEq, Nat.reduceAdd, Nat.reduceMul, Nat.reduceLeDiff, Nat.reduceLT, Int.reduceLE, Int.reduceLT, Int.reduceEq, Nat.reduceBEq, Nat.reduceEqDiff, look_c, eqN_nil, eqN_l, eqN_r, eqN_c, forall_cs, forall_nl, txSV]) ?_
      refine dD_pA rfl (.ptr x.id 0) (by simp only [go_sem, reduceCtorEq, Nat.reduceAdd, Nat.reduceMul, Nat.reduceLeDiff, Nat.reduceLT, Int.reduceLE, Int.reduceLT, Int.reduceEq, Nat.reduceBEq, Nat.reduceEqDiff, look_c, eqN_nil, eqN_l, eqN_r, eqN_c, forall_cs, forall_nl, txSV]) ?_
      refine dD_pA rfl (.ptr x.id 0) (by simp only [go_sem, reduceCtorEq, Nat.reduceAdd, Nat.reduceMul, Nat.reduceLeDiff, Nat.reduceLT, Int.reduceLE, Int.reduceLT, Int.reduceEq, Nat.reduceBEq, Nat.reduceEqDiff, look_c, eqN_nil, eqN_l, eqN_r, eqN_c, forall_cs, forall_nl, txSV]) ?_
      refine dD_pA rfl (.ptr x.id 3) (by simp only [go_sem, reduceCtorEq, Nat.reduceAdd, Nat.reduceMul, Nat.reduceLeDiff, Nat.reduceLT, Int.reduceLE, Int.reduceLT, Int.reduceEq, Nat.reduceBEq, Nat.reduceEqDiff, look_c, eqN_nil, eqN_l, eqN_r, eqN_c, forall_cs, forall_nl, txSV]) ?_
      refine dD_pA rfl (.arr x.pid x.pver x.mids.length) (by simp only [go_sem, reduceCtorEq, Nat.reduceAdd, Nat.reduceMul, Nat.reduceLeDiff, Nat.reduceLT, Int.reduceLE, Int.reduceLT, Int.reduceEq, Nat.reduceBEq, Nat.reduceEqDiff, look_c, eqN_nil, eqN_l, eqN_r, eqN_c, forall_cs, forall_nl, txSV, g.1, g.2.1, g.2.2, TX.cells]) ?_
      refine dD_pA rfl (.ptr x.id 0) (by simp only [go_sem, reduceCtorEq, Nat.reduceAdd, Nat.reduceMul, Nat.reduceLeDiff, Nat.reduceLT, Int.reduceLE, Int.reduceLT, Int.reduceEq, Nat.reduceBEq, Nat.reduceEqDiff, look_c, eqN_nil, eqN_l, eqN_r, eqN_c, forall_cs, forall_nl, txSV]) ?_
      refine dD_pA rfl (.ptr x.id 0) (by simp only [go_sem, reduceCtorEq, Nat.reduceAdd, Nat.reduceMul, Nat.reduceLeDiff, Nat.reduceLT, Int.reduceLE, Int.reduceLT, Int.reduceEq, Nat.reduceBEq, Nat.reduceEqDiff, look_c, eqN_nil, eqN_l, eqN_r, eqN_c, forall_cs, forall_nl, txSV]) ?_
      refine dD_pA rfl (.ptr x.id 3) (by simp only [go_sem, reduceCtorEq, Nat.reduceAdd, Nat.reduceMul, Nat.reduceLeDiff, Nat.reduceLT, Int.reduceLE, Int.reduceLT, Int.reduceEq, Nat.reduceBEq, Nat.reduceEqDiff, look_c, eqN_nil, eqN_l, eqN_r, eqN_c, forall_cs, forall_nl, txSV]) ?_
      refine dD_pA rfl (.arr x.pid x.pver x.mids.length) (by simp only [go_sem, reduceCtorEq, Nat.reduceAdd, Nat.reduceMul, Nat.reduceLeDiff, Nat.reduceLT, Int.reduceLE, Int.reduceLT, Int.reduceEq, Nat.reduceBEq, Nat.reduceEqDiff, look_c, eqN_nil, eqN_l, eqN_r, eqN_c, forall_cs, forall_nl, txSV, g.1, g.2.1, g.2.2, TX.cells]) ?_
      refine dD_pA rfl (i64 x.mids.length) (by simp only [go_sem, reduceCtorEq, Nat.reduceAdd, Nat.reduceMul, Nat.reduceLeDiff, Nat.reduceLT, Int.reduceLE, Int.reduceLT, Int.reduceEq, Nat.reduceBEq, Nat.reduceEqDiff, look_c, eqN_nil, eqN_l, eqN_r, eqN_c, forall_cs, forall_nl, txSV, w.1, w.2.1, w.2.2.1, w.2.2.2]) ?_
      refine dD_pA rfl (i64 (x.mids.length - 1 : Nat)) (by simp only [go_sem, reduceCtorEq, Nat.reduceAdd, Nat.reduceMul, Nat.reduceLeDiff, Nat.reduceLT, Int.reduceLE, Int.reduceLT, Int.reduceEq, Nat.reduceBEq, Nat.reduceEqDiff, look_c, eqN_nil, eqN_l, eqN_r, eqN_c, forall_cs, forall_nl, txSV, hw1]) ?_
      refine dD_pA rfl (.arr x.pid x.pver (x.mids.length - 1)) (by simp only [go_sem, reduceCtorEq, Nat.reduceAdd, Nat.reduceMul, Nat.reduceLeDiff, Nat.reduceLT, Int.reduceLE, Int.reduceLT, Int.reduceEq, Nat.reduceBEq, Nat.reduceEqDiff, look_c, eqN_nil, eqN_l, eqN_r, eqN_c, forall_cs, forall_nl, txSV, w.1, w.2.1, w.2.2.1, w.2.2.2]; exact ⟨rfl, by omega⟩) ?_
      refine dD_pA rfl (.ptr x.id 0) (by simp only [go_sem, reduceCtorEq, Nat.reduceAdd, Nat.reduceMul, Nat.reduceLeDiff, Nat.reduceLT, Int.reduceLE, Int.reduceLT, Int.reduceEq, Nat.reduceBEq, Nat.reduceEqDiff, look_c, eqN_nil, eqN_l, eqN_r, eqN_c, forall_cs, forall_nl, txSV]) ?_
      refine dD_pA rfl (.ptr x.id 3) (by simp only [go_sem, reduceCtorEq, Nat.reduceAdd, Nat.reduceMul, Nat.reduceLeDiff, Nat.reduceLT, Int.reduceLE, Int.reduceLT, Int.reduceEq, Nat.reduceBEq, Nat.reduceEqDiff, look_c, eqN_nil, eqN_l, eqN_r, eqN_c, forall_cs, forall_nl, txSV]) ?_
      refine dD_t1 (d := [14]) rfl rfl .any rfl (by simp only [go_sem, reduceCtorEq, Nat.reduceAdd, Nat.reduceMul, Nat.reduceLeDiff, Nat.reduceLT, Int.reduceLE, Int.reduceLT, Int.reduceEq, Nat.reduceBEq, Nat.reduceEqDiff, look_c, eqN_nil, eqN_l, eqN_r, eqN_c, forall_cs, forall_nl, txSV, g.1, g.2.1, g.2.2, TX.cells]; exact hcut) ?_
      refine dD_end ?_
      simp only [go_sem, reduceCtorEq, Nat.reduceAdd, Nat.reduceMul, Nat.reduceLeDiff, Nat.reduceLT, Int.reduceLE, Int.reduceLT, Int.reduceEq, Nat.reduceBEq, Nat.reduceEqDiff, txSV]
      refine ⟨fun hj => ?_, fun hj => ?_⟩
      · refine hlast1 _ ?_
        simp only [go_sem, reduceCtorEq, Nat.reduceAdd, Nat.reduceMul, Nat.reduceLeDiff, Nat.reduceLT, Int.reduceLE, Int.reduceLT, Int.reduceEq, Nat.reduceBEq, Nat.reduceEqDiff]
        refine hcopy _ fun D' k1 k2 => ?_
        simp only [go_sem, reduceCtorEq, Nat.reduceAdd, Nat.reduceMul, Nat.reduceLeDiff, Nat.reduceLT, Int.reduceLE, Int.reduceLT, Int.reduceEq, Nat.reduceBEq, Nat.reduceEqDiff]
        have hup := eng_map key.1 ht hx1 h11 D' k1
        refine h _ _ hup.1 (key.2.trans hup.2) ?_
        rw [hj]
        have e1 : (x.cut.setTop D').abs = x.abs.drop.setTop (fmOver x.abs.top x.abs.drop.top) := by
          rw [TX.abs_setTop, k2, TX.abs_cut, ← TX.abs_top, ← TX.abs_top, TX.abs_cut]; rfl
        show EG.abs { E with txs := (E.txs.set t.toNat (some x.cut)).set t.toNat (some (x.cut.setTop D')) } = E.abs.put t (x.abs.drop.setTop (fmOver x.abs.top x.abs.drop.top))
        rw [List.set_set, ← e1]
        exact abs_put E t _
      · refine h _ _ key.1 key.2 ?_
        rw [hj]
        exact (abs_put E t _).trans (by rw [TX.abs_cut]; rfl)

theorem join_c {st : St} {E : EG} (hE : EngAt st E) (hF : Fine E) (t : Int) (K : SV → St → Prop)
    (h : ∀ s E', EngAt s E' → Fr st E s E' → E'.abs = (shutF E.abs t true).2 → K (i64 (shutF E.abs t true).1) s) : ACalls Try.prog 15 [.ptr E.id 0, i64 t] K st := by
  have hs := shut_c hE hF t true
  refine acalls_go (M := []) Try.func15 rfl Try.results15 Try.ntmps15 ?_
  simp only [go_sem, reduceCtorEq, Nat.reduceAdd, Nat.reduceMul, Nat.reduceLeDiff, Nat.reduceLT, Int.reduceLE, Int.reduceLT, Int.reduceEq, Nat.reduceBEq, Nat.reduceEqDiff]
  refine hs _ fun s E' h1 h2 h3 => ?_
  simp only [go_sem, reduceCtorEq, Nat.reduceAdd, Nat.reduceMul, Nat.reduceLeDiff, Nat.reduceLT, Int.reduceLE, Int.reduceLT, Int.reduceEq, Nat.reduceBEq, Nat.reduceEqDiff]
  exact h s E' h1 h2 h3

theorem undo_c {st : St} {E : EG} (hE : EngAt st E) (hF : Fine E) (t : Int) (K : SV → St → Prop)
    (h : ∀ s E', EngAt s E' → Fr st E s E' → E'.abs = (shutF E.abs t false).2 → K (i64 (shutF E.abs t false).1) s) : ACalls Try.prog 16 [.ptr E.id 0, i64 t] K st := by
  have hs := shut_c hE hF t false
  refine acalls_go (M := []) Try.func16 rfl Try.results16 Try.ntmps16 ?_
  simp only [go_sem, reduceCtorEq, Nat.reduceAdd, Nat.reduceMul, Nat.reduceLeDiff, Nat.reduceLT, Int.reduceLE, Int.reduceLT, Int.reduceEq, Nat.reduceBEq, Nat.reduceEqDiff]
  refine hs _ fun s E' h1 h2 h3 => ?_
  simp only [go_sem, reduceCtorEq, Nat.reduceAdd, Nat.reduceMul, Nat.reduceLeDiff, Nat.reduceLT, Int.reduceLE, Int.reduceLT, Int.reduceEq, Nat.reduceBEq, Nat.reduceEqDiff]
  exact h s E' h1 h2 h3

end Go.Proofs
