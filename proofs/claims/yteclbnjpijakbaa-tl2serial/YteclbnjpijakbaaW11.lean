/- The engine: write. -/
import Derived.Test.YteclbnjpijakbaaW10
set_option linter.unusedSimpArgs false
set_option linter.unusedVariables false
set_option maxRecDepth 8000
namespace Go.Proofs
open Go Go.AL

def TP.base (x : TP) : FM := x.maps.getD 0 (fun _ => none)
/-- One var is written back. -/
def putF (E : EP) (t : Int) (x : TP) : Int × EP := match x.left with
  | [] => (0, E)
  | n :: r => let vs := E.vars.set n.toNat ⟨(x.base n).getD 0, x.stamp, -1⟩
    if r = [] then (4, { E with vars := vs, txs := E.txs.set t.toNat none }) else (3, { E with vars := vs, txs := E.txs.set t.toNat (some { x with left := r }) })

def TX.setLeft (x : TX) (l : List Int) : TX := { x with left := l }

/-- The first map of a transaction. -/
theorem base_at {st : St} {x : TX} (hT : TxAt st x) (h1 : 1 ≤ x.mids.length) : ∃ cs, st[x.pid]? = some (.arr x.pver 1 cs) ∧ cs.drop 0 = .mp (x.mids.getD 0 0) :: cs.drop 1 ∧ st[x.mids.getD 0 0]? = some (.map (pmEs (x.maps.getD 0 []))) ∧ 0 < cs.length := by
  obtain ⟨cs, hp, hle, htk⟩ := hT.parts
  refine ⟨cs, hp, ?_, hT.maps 0 (by omega), Nat.lt_of_lt_of_le (Nat.lt_of_lt_of_le Nat.zero_lt_one h1) hle⟩
  cases hc : cs with
  | nil => rw [hc, List.length_nil] at hle; omega
  | cons c r =>
    rw [hc] at htk
    cases hm : x.mids with
    | nil => rw [hm] at h1; simp at h1
    | cons m q =>
      rw [hm] at htk
      simp only [List.length_cons, List.take_succ_cons, List.map_cons, List.cons.injEq] at htk
      simp [htk.1]

theorem TX.abs_base (x : TX) : x.abs.base = pmGet (x.maps.getD 0 []) := by
  unfold TP.base TX.abs
  simp only [List.getD_eq_getElem?_getD, List.getElem?_map]
  cases x.maps[0]? <;> rfl

set_option maxHeartbeats 4000000 in
theorem put_c {st : St} {E : EG} (hE : EngAt st E) (t : Int) (ht : 0 ≤ t ∧ t < 8) {x : TX} (hx : E.txs[t.toNat]? = some (some x)) (h1 : 1 ≤ x.mids.length) {n : Int} {r : List Int} (hl : x.left = n :: r) (hn : 0 ≤ n ∧ n < (E.vars.length : Int)) (K : SV → St → Prop)
    (h : ∀ s E', EngAt s E' → Fr st E s E' → E'.abs = (putF E.abs t x.abs).2 → K (i64 (putF E.abs t x.abs).1) s) : ACalls Try.prog 62 [.ptr E.id 0, i64 t, .ptr x.id 0] K st := by
  have hT := hE.tx _ x hx
  have g := cells_facts hT.cells
  obtain ⟨cs, hp, hd0, hm, hcl⟩ := base_at hT h1
  have s1d : ∃ s1, s1 = st.set x.id (.cells (x.setLeft r).cells) := ⟨_, rfl⟩
  obtain ⟨s1, hs1⟩ := s1d
  have hse : List.set st x.id (.cells [i64 x.start, i64 x.stamp, .slice (.own x.rid x.rver) 1 (x.reads.map i64), .arr x.pid x.pver x.mids.length, .sc (.bool x.commits), .sc (.bool x.pointed), .slice .imm 1 (r.map i64)]) = s1 := by rw [hs1]; rfl
  have hlt1 := lt_of_get hT.cells
  have a1 : s1[x.id]? = some (.cells (x.setLeft r).cells) := by rw [hs1, List.getElem?_set_self hlt1]
  have hne := hE.tx_ne hx (.inl rfl)
  have n2 : x.id ≠ x.pid := fun e => by have := hT.cells; rw [e, hp] at this; cases this
  have a2 : s1[E.id]? = some (.cells E.cells) := by rw [hs1, List.getElem?_set_ne hne.1]; exact hE.cells
  have a3 : s1[E.vid]? = some (.arr E.vver 3 (E.vars.flatMap tvSV)) := by rw [hs1, List.getElem?_set_ne hne.2]; exact hE.vars
  have a4 : s1[x.pid]? = some (.arr x.pver 1 cs) := by rw [hs1, List.getElem?_set_ne n2]; exact hp
  have a5 : s1[x.mids.getD 0 0]? = some (.map (pmEs (x.maps.getD 0 []))) := by rw [hs1, List.getElem?_set_ne (hT.ne_map hm).1.symm]; exact hm
  have b1 := cells_facts a1
  have b2 := cells_facts a2
  have b3 := arr_facts a3
  have b4 := arr_facts a4
  have b5 := map_facts a5
  have hi := pm_int (x.maps.getD 0 [])
  have hcl1 : (0 : Int) < (x.mids.length : Int) := by omega
  have hd0' : cs = .mp (x.mids.getD 0 0) :: cs.drop 1 := hd0
  have hnv : n.toNat < E.vars.length := by omega
  refine acalls_go (M := []) Try.func62 rfl Try.results62 Try.ntmps62 ?_
  simp only [go_sem, reduceCtorEq, Nat.reduceAdd, Nat.reduceMul, Nat.reduceLeDiff, Nat.reduceLT, Int.reduceLE, Int.reduceLT, Int.reduceEq, Nat.reduceBEq, Nat.reduceEqDiff, g.1, g.2.1, g.2.2, TX.cells, hl, List.map_cons]
  refine ⟨by omega, by omega, ?_⟩
  rw [hse]
  refine awp_drawD [] [19] [([], s1), ([19], s1.set E.vid (.arr E.vver 3 ((E.vars.set n.toNat ⟨(pmGet (x.maps.getD 0 []) n).getD 0, x.stamp, -1⟩).flatMap tvSV)))] [[[]], [[]], [[]], [[]], [[]], [[]], [[]], [[]], [[]], [[]], [[]], [[]], [[]], [[]], [[]], [[]], [[]], [[]], [[]], [[]]] Try.mixed rfl rfl rfl rfl rfl ?_
  refine dD_pA rfl (.ptr E.id 0) (by simp only [go_sem, reduceCtorEq, Nat.reduceAdd, Nat.reduceMul, Nat.reduceLeDiff, Nat.reduceLT, Int.reduceLE, Int.reduceLT, Int.reduceEq, Nat.reduceBEq, Nat.reduceEqDiff, look_c, eqN_nil, eqN_l, eqN_r, eqN_c, forall_cs, forall_nl]) ?_
  refine dD_pA rfl (.ptr E.id 0) (by simp only [go_sem, reduceCtorEq, Nat.reduceAdd, Nat.reduceMul, Nat.reduceLeDiff, Nat.reduceLT, Int.reduceLE, Int.reduceLT, Int.reduceEq, Nat.reduceBEq, Nat.reduceEqDiff, look_c, eqN_nil, eqN_l, eqN_r, eqN_c, forall_cs, forall_nl]) ?_
  refine dD_pA rfl (.ptr E.id 1) (by simp only [go_sem, reduceCtorEq, Nat.reduceAdd, Nat.reduceMul, Nat.reduceLeDiff, Nat.reduceLT, Int.reduceLE, Int.reduceLT, Int.reduceEq, Nat.reduceBEq, Nat.reduceEqDiff, look_c, eqN_nil, eqN_l, eqN_r, eqN_c, forall_cs, forall_nl]) ?_
  refine dD_pA rfl (.arr E.vid E.vver E.vars.length) (by simp only [go_sem, reduceCtorEq, Nat.reduceAdd, Nat.reduceMul, Nat.reduceLeDiff, Nat.reduceLT, Int.reduceLE, Int.reduceLT, Int.reduceEq, Nat.reduceBEq, Nat.reduceEqDiff, look_c, eqN_nil, eqN_l, eqN_r, eqN_c, forall_cs, forall_nl, b2.1, b2.2.1, b2.2.2, EG.cells]) ?_
  refine dD_pA rfl (i64 n) (by simp only [go_sem, reduceCtorEq, Nat.reduceAdd, Nat.reduceMul, Nat.reduceLeDiff, Nat.reduceLT, Int.reduceLE, Int.reduceLT, Int.reduceEq, Nat.reduceBEq, Nat.reduceEqDiff, look_c, eqN_nil, eqN_l, eqN_r, eqN_c, forall_cs, forall_nl]) ?_
  refine dD_pA rfl (.ptr x.id 0) (by simp only [go_sem, reduceCtorEq, Nat.reduceAdd, Nat.reduceMul, Nat.reduceLeDiff, Nat.reduceLT, Int.reduceLE, Int.reduceLT, Int.reduceEq, Nat.reduceBEq, Nat.reduceEqDiff, look_c, eqN_nil, eqN_l, eqN_r, eqN_c, forall_cs, forall_nl]) ?_
  refine dD_pA rfl (.ptr x.id 0) (by simp only [go_sem, reduceCtorEq, Nat.reduceAdd, Nat.reduceMul, Nat.reduceLeDiff, Nat.reduceLT, Int.reduceLE, Int.reduceLT, Int.reduceEq, Nat.reduceBEq, Nat.reduceEqDiff, look_c, eqN_nil, eqN_l, eqN_r, eqN_c, forall_cs, forall_nl]) ?_
  refine dD_pA rfl (.ptr x.id 3) (by simp only [go_sem, reduceCtorEq, Nat.reduceAdd, Nat.reduceMul, Nat.reduceLeDiff, Nat.reduceLT, Int.reduceLE, Int.reduceLT, Int.reduceEq, Nat.reduceBEq, Nat.reduceEqDiff, look_c, eqN_nil, eqN_l, eqN_r, eqN_c, forall_cs, forall_nl]) ?_
  refine dD_pA rfl (.arr x.pid x.pver x.mids.length) (by simp only [go_sem, reduceCtorEq, Nat.reduceAdd, Nat.reduceMul, Nat.reduceLeDiff, Nat.reduceLT, Int.reduceLE, Int.reduceLT, Int.reduceEq, Nat.reduceBEq, Nat.reduceEqDiff, look_c, eqN_nil, eqN_l, eqN_r, eqN_c, forall_cs, forall_nl, b1.1, b1.2.1, b1.2.2, TX.cells, TX.setLeft]) ?_
  refine dD_pA rfl (.aptr x.pid x.pver 0) (by simp only [go_sem, reduceCtorEq, Nat.reduceAdd, Nat.reduceMul, Nat.reduceLeDiff, Nat.reduceLT, Int.reduceLE, Int.reduceLT, Int.reduceEq, Nat.reduceBEq, Nat.reduceEqDiff, look_c, eqN_nil, eqN_l, eqN_r, eqN_c, forall_cs, forall_nl, b4.1, b4.2.1, b4.2.2.1, b4.2.2.2, hcl1]) ?_
  refine dD_pA rfl (.mp (x.mids.getD 0 0)) (by simp only [go_sem, reduceCtorEq, Nat.reduceAdd, Nat.reduceMul, Nat.reduceLeDiff, Nat.reduceLT, Int.reduceLE, Int.reduceLT, Int.reduceEq, Nat.reduceBEq, Nat.reduceEqDiff, look_c, eqN_nil, eqN_l, eqN_r, eqN_c, forall_cs, forall_nl, b4.1, b4.2.1, b4.2.2.1, b4.2.2.2]; rw [hd0']; simp only [go_sem, reduceCtorEq, Nat.reduceAdd, Nat.reduceMul, Nat.reduceLeDiff, Nat.reduceLT, Int.reduceLE, Int.reduceLT, Int.reduceEq, Nat.reduceBEq, Nat.reduceEqDiff]) ?_
  refine dD_pA rfl (i64 n) (by simp only [go_sem, reduceCtorEq, Nat.reduceAdd, Nat.reduceMul, Nat.reduceLeDiff, Nat.reduceLT, Int.reduceLE, Int.reduceLT, Int.reduceEq, Nat.reduceBEq, Nat.reduceEqDiff, look_c, eqN_nil, eqN_l, eqN_r, eqN_c, forall_cs, forall_nl]) ?_
  refine dD_pA rfl (i64 ((pmGet (x.maps.getD 0 []) n).getD 0)) (by simp only [go_sem, reduceCtorEq, Nat.reduceAdd, Nat.reduceMul, Nat.reduceLeDiff, Nat.reduceLT, Int.reduceLE, Int.reduceLT, Int.reduceEq, Nat.reduceBEq, Nat.reduceEqDiff, look_c, eqN_nil, eqN_l, eqN_r, eqN_c, forall_cs, forall_nl]; rw [mapGet_int Try.amap92 Try.zeroSV3 b5.2 hi, pm_get]; exact ⟨rfl, rfl⟩) ?_
  refine dD_pA rfl (.ptr x.id 0) (by simp only [go_sem, reduceCtorEq, Nat.reduceAdd, Nat.reduceMul, Nat.reduceLeDiff, Nat.reduceLT, Int.reduceLE, Int.reduceLT, Int.reduceEq, Nat.reduceBEq, Nat.reduceEqDiff, look_c, eqN_nil, eqN_l, eqN_r, eqN_c, forall_cs, forall_nl]) ?_
  refine dD_pA rfl (.ptr x.id 0) (by simp only [go_sem, reduceCtorEq, Nat.reduceAdd, Nat.reduceMul, Nat.reduceLeDiff, Nat.reduceLT, Int.reduceLE, Int.reduceLT, Int.reduceEq, Nat.reduceBEq, Nat.reduceEqDiff, look_c, eqN_nil, eqN_l, eqN_r, eqN_c, forall_cs, forall_nl]) ?_
  refine dD_pA rfl (.ptr x.id 1) (by simp only [go_sem, reduceCtorEq, Nat.reduceAdd, Nat.reduceMul, Nat.reduceLeDiff, Nat.reduceLT, Int.reduceLE, Int.reduceLT, Int.reduceEq, Nat.reduceBEq, Nat.reduceEqDiff, look_c, eqN_nil, eqN_l, eqN_r, eqN_c, forall_cs, forall_nl]) ?_
  refine dD_pA rfl (i64 x.stamp) (by simp only [go_sem, reduceCtorEq, Nat.reduceAdd, Nat.reduceMul, Nat.reduceLeDiff, Nat.reduceLT, Int.reduceLE, Int.reduceLT, Int.reduceEq, Nat.reduceBEq, Nat.reduceEqDiff, look_c, eqN_nil, eqN_l, eqN_r, eqN_c, forall_cs, forall_nl, b1.1, b1.2.1, b1.2.2, TX.cells, TX.setLeft]) ?_
  refine dD_pA rfl (.agg [i64 ((pmGet (x.maps.getD 0 []) n).getD 0), i64 x.stamp, i64 (-1)]) (by simp only [go_sem, reduceCtorEq, Nat.reduceAdd, Nat.reduceMul, Nat.reduceLeDiff, Nat.reduceLT, Int.reduceLE, Int.reduceLT, Int.reduceEq, Nat.reduceBEq, Nat.reduceEqDiff, look_c, eqN_nil, eqN_l, eqN_r, eqN_c, forall_cs, forall_nl]; refine ⟨_, ?_, rfl⟩; simp only [go_sem, reduceCtorEq, Nat.reduceAdd, Nat.reduceMul, Nat.reduceLeDiff, Nat.reduceLT, Int.reduceLE, Int.reduceLT, Int.reduceEq, Nat.reduceBEq, Nat.reduceEqDiff]; exact ⟨⟨[], by simp⟩, by simp only [go_sem, reduceCtorEq, Nat.reduceAdd, Nat.reduceMul, Nat.reduceLeDiff, Nat.reduceLT, Int.reduceLE, Int.reduceLT, Int.reduceEq, Nat.reduceBEq, Nat.reduceEqDiff], .inl rfl⟩) ?_
  refine dD_pA rfl (.aptr E.vid E.vver (n.toNat * 3)) (by simp only [go_sem, reduceCtorEq, Nat.reduceAdd, Nat.reduceMul, Nat.reduceLeDiff, Nat.reduceLT, Int.reduceLE, Int.reduceLT, Int.reduceEq, Nat.reduceBEq, Nat.reduceEqDiff, look_c, eqN_nil, eqN_l, eqN_r, eqN_c, forall_cs, forall_nl, b3.1, b3.2.1, b3.2.2.1, b3.2.2.2, hn.1, hn.2]) ?_
  refine dD_t1 (d := [19]) rfl rfl .any rfl (by simp only [go_sem, reduceCtorEq, Nat.reduceAdd, Nat.reduceMul, Nat.reduceLeDiff, Nat.reduceLT, Int.reduceLE, Int.reduceLT, Int.reduceEq, Nat.reduceBEq, Nat.reduceEqDiff, look_c, eqN_nil, eqN_l, eqN_r, eqN_c, forall_cs, forall_nl, b3.1, b3.2.1, b3.2.2.1, b3.2.2.2]; exact ⟨by rw [vars_len]; omega, by rw [← vars_put hnv]; rfl⟩) ?_
  refine dD_end ?_
  obtain ⟨vs, hvs⟩ : ∃ vs, vs = E.vars.set n.toNat ⟨(pmGet (x.maps.getD 0 []) n).getD 0, x.stamp, -1⟩ := ⟨_, rfl⟩
  have hvl : vs.length = E.vars.length := by rw [hvs, List.length_set]
  rw [← hvs]
  obtain ⟨s2, hs2⟩ : ∃ s2, s2 = s1.set E.vid (.arr E.vver 3 (vs.flatMap tvSV)) := ⟨_, rfl⟩
  show thenQ _ _ .normal _ (s1.set E.vid (.arr E.vver 3 (vs.flatMap tvSV)))
  rw [← hs2]
  have d1 : s2[x.id]? = some (.cells (x.setLeft r).cells) := by rw [hs2, List.getElem?_set_ne hne.2.symm]; exact a1
  have d2 : s2[E.id]? = some (.cells E.cells) := by rw [hs2, List.getElem?_set_ne hE.vidne.symm]; exact a2
  have e1 := cells_facts d1
  have e2 := cells_facts d2
  have hF : putF E.abs t x.abs = if r = [] then (4, { E.abs with vars := vs, txs := E.abs.txs.set t.toNat none }) else (3, { E.abs with vars := vs, txs := E.abs.txs.set t.toNat (some { x.abs with left := r }) }) := by
    unfold putF
    rw [show x.abs.left = n :: r from hl]
    simp only [TX.abs_base]
    rw [show (x.abs.stamp = x.stamp) from rfl, show E.abs.vars = E.vars from rfl, ← hvs]
  rw [hF] at h
  have hoth : ∀ j, j ≠ E.vid → j ≠ x.id → s2[j]? = st[j]? := fun j q1 q2 => by rw [hs2, List.getElem?_set_ne q1.symm, hs1, List.getElem?_set_ne q2.symm]
  have hl2 : s2.length = st.length := by rw [hs2, hs1]; simp
  have ht8 : t.toNat < 8 := by omega
  have d3 : s2[E.vid]? = some (.arr E.vver 3 (vs.flatMap tvSV)) := by rw [hs2, List.getElem?_set_self (lt_of_get a3)]
  cases hr : r with
  | nil =>
    rw [hr, if_pos rfl] at h
    simp only [go_sem, reduceCtorEq, Nat.reduceAdd, Nat.reduceMul, Nat.reduceLeDiff, Nat.reduceLT, Int.reduceLE, Int.reduceLT, Int.reduceEq, Nat.reduceBEq, Nat.reduceEqDiff, e1.1, e1.2.1, e1.2.2, TX.cells, TX.setLeft, hr]
    refine ⟨fun c => by simp at c, fun _ => ⟨⟨ht.1, ht.2⟩, e2.2.1 ▸ trivial, ?_⟩⟩
    rw [e2.2.2, Nat.mul_one]
    refine ⟨by rw [cells_len E hE.len]; omega, ?_⟩
    have key := eng_gone (s := s2.set E.id (.cells (E.cells.take (2 + t.toNat) ++ .sc (.pointer none) :: E.cells.drop (2 + (t.toNat + 1))))) (vs := vs) hE ht8 hvl (by simp [hl2])
      (List.getElem?_set_self (lt_of_get d2)) (by rw [List.getElem?_set_ne hE.vidne]; exact d3) (fun j q1 q2 q3 _ => by rw [List.getElem?_set_ne (Ne.symm q1)]; exact hoth j q2 (fun e => q3 x hx (.inl e)))
    exact h _ _ key.1 key.2 (by simp only [EG.abs, List.map_set]; rfl)
  | cons a q =>
    rw [if_neg (by rw [hr]; exact List.cons_ne_nil _ _)] at h
    simp only [go_sem, reduceCtorEq, Nat.reduceAdd, Nat.reduceMul, Nat.reduceLeDiff, Nat.reduceLT, Int.reduceLE, Int.reduceLT, Int.reduceEq, Nat.reduceBEq, Nat.reduceEqDiff, e1.1, e1.2.1, e1.2.2, TX.cells, TX.setLeft, hr]
    refine ⟨fun _ => ?_, fun c => by simp at c⟩
    have hT2 : TxAt s2 (x.setLeft r) := by
      obtain ⟨cs', hp', hle', htk'⟩ := hT.parts
      have hm2 : ∀ j, j ≠ E.vid → j ≠ x.id → x.has j → s2[j]? = st[j]? := fun j q1 q2 _ => hoth j q1 q2
      have nv : ∀ j, x.has j → j ≠ E.vid := fun j hj => (hE.tx_ne hx hj).2
      refine ⟨d1, ?_, ⟨cs', ?_, hle', htk'⟩, hT.len, fun i hi => ?_, hT.nodup, hT.keys⟩
      · exact (hoth x.rid (nv _ (.inr (.inl rfl))) (fun e => by have := hT.tok; rw [e, hT.cells] at this; cases this)).trans hT.tok
      · exact (hoth x.pid (nv _ (.inr (.inr (.inl rfl)))) n2.symm).trans hp'
      · have h5 := hT.maps i hi
        have hmm : x.mids.getD i 0 ∈ x.mids := by
          have hi' : i < x.mids.length := hi
          simp [List.getD_eq_getElem?_getD, hi']
        exact (hoth _ (nv _ (.inr (.inr (.inr hmm)))) (hT.ne_map h5).1).trans h5
    have hcells : ({ E with vars := vs, txs := E.txs.set t.toNat (some (x.setLeft r)) } : EG).cells = E.cells := by
      unfold EG.cells
      simp only [hvl, List.map_set]
      rw [show txSV (some (x.setLeft r)) = txSV (some x) from rfl, ← List.map_set, set_self hx]
    have key := eng_upd (s := s2) (E' := { E with vars := vs, txs := E.txs.set t.toNat (some (x.setLeft r)) }) hE ht8 (some (x.setLeft r)) rfl rfl rfl (by rw [hcells]; exact d2) d3 (by show vs.length ≤ 4000; rw [hvl]; exact hE.many) (by omega)
      (fun j q1 q2 q3 _ => hoth j q2 (fun e => q3 x hx (.inl e))) (fun x' hx' => by cases hx'; exact ⟨hT2, fun j hj => .inl ⟨x, hx, hj⟩⟩)
    exact h _ _ key.1 key.2 (by simp only [EG.abs, List.map_set, ← hr]; rfl)

end Go.Proofs
