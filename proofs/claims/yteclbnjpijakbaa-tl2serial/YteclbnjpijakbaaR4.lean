/- The reference: Begin. -/
import Derived.Test.YteclbnjpijakbaaR3
import Derived.Test.YteclbnjpijakbaaA8
set_option linter.unusedSimpArgs false
set_option linter.unusedVariables false
set_option maxRecDepth 8000
namespace Go.Proofs
open Go Go.AL

def RT.raw (x : RT) : List SV := [.sc (.bool x.is), i64 x.start, .slice .full 0 [], .slice .full 0 [], i64 x.parts, .sc (.bool x.commits), i64 x.stamp, i64 x.done]

/-- A record is laid anew. -/
theorem ref_fresh {st : St} {R : RG} (hR : RefAt st R) {t : Nat} {y : RX} (hy : R.xs[t]? = some y) (x : RT) (h1 : x.reads = []) (h2 : x.puts = []) :
    ∃ s2 R', Conv (st.set R.tid (.cells ((R.xs.flatMap RX.cells).take (t * 8) ++ (x.raw ++ (R.xs.flatMap RX.cells).drop (t * 8 + 8))))) s2 ∧ RefAt s2 R' ∧ RFr st R s2 R' ∧ R'.abs = { R.abs with txs := R.abs.txs.set t x } := by
  have hlt := lt_of_get hR.txs
  have h0 : (st.set R.tid (.cells ((R.xs.flatMap RX.cells).take (t * 8) ++ (x.raw ++ (R.xs.flatMap RX.cells).drop (t * 8 + 8)))))[R.tid]? = some (.cells ((R.xs.flatMap RX.cells).take (t * 8) ++
      (.sc (.bool x.is) :: i64 x.start :: .slice .full 0 [] :: .slice .full 0 [] :: (i64 x.parts :: .sc (.bool x.commits) :: i64 x.stamp :: i64 x.done :: (R.xs.flatMap RX.cells).drop (t * 8 + 8))))) := List.getElem?_set_self hlt
  have c := conv_rec h0
  rw [List.set_set, List.length_set] at c
  have e : (R.xs.flatMap RX.cells).take (t * 8) ++ (.sc (.bool x.is) :: i64 x.start :: .slice (.own st.length 0) 1 [] :: .arr (st.length + 1) 0 0 :: (i64 x.parts :: .sc (.bool x.commits) :: i64 x.stamp :: i64 x.done :: (R.xs.flatMap RX.cells).drop (t * 8 + 8))) =
      (R.xs.set t ⟨st.length, 0, st.length + 1, 0, x⟩).flatMap RX.cells :=
    rx_put (y' := ⟨st.length, 0, st.length + 1, 0, x⟩) hy 0 (RX.cells ⟨st.length, 0, st.length + 1, 0, x⟩) rfl (by decide) rfl |> (fun q => by
      rw [← q]; simp [RX.cells, h1, h2])
  rw [e] at c
  refine ⟨_, R.setX t ⟨st.length, 0, st.length + 1, 0, x⟩, c, ?_⟩
  have g : ∀ j, j < st.length → j ≠ R.tid → (st.set R.tid (.cells ((R.xs.set t ⟨st.length, 0, st.length + 1, 0, x⟩).flatMap RX.cells)) ++ [Ob.tok 0, Ob.arr 0 3 []])[j]? = st[j]? := by
    intro j hj hn
    rw [List.getElem?_append_left (by simpa using hj), List.getElem?_set_ne (Ne.symm hn)]
  have key := ref_upd (s := st.set R.tid (.cells ((R.xs.set t ⟨st.length, 0, st.length + 1, 0, x⟩).flatMap RX.cells)) ++ [Ob.tok 0, Ob.arr 0 3 []]) (R' := R.setX t ⟨st.length, 0, st.length + 1, 0, x⟩) hR hy rfl rfl rfl rfl
    (by rw [g _ (lt_of_get hR.cells) hR.ne]; exact hR.cells) (by rw [g _ (lt_of_get hR.vars) hR.ntv.symm]; exact hR.vars)
    (by rw [List.getElem?_append_left (by simpa using hlt), List.getElem?_set_self hlt]; rfl) hR.many (by simp) (fun j _ _ a _ _ l => g j l a)
    (by rw [List.getElem?_append_right (by simp)]; simp) (by rw [List.getElem?_append_right (by simp)]; simp [h2]) (.inr (Nat.le_refl _)) (.inr (by simp))
  exact ⟨key.1, key.2, by simp only [RG.abs, RG.setX, List.map_set]⟩

def beginR (R : RP) (t : Int) : Int × RP := if 0 ≤ t ∧ t < 8 ∧ (R.get t).is = false then (0, R.put t ⟨true, R.clock, [], [], 1, false, 0, 0⟩) else (1, R)

set_option maxHeartbeats 4000000 in
theorem rbegin_c {st : St} {R : RG} (hR : RefAt st R) (t : Int) (K : SV → St → Prop)
    (h : ∀ s R', RefAt s R' → RFr st R s R' → R'.abs = (beginR R.abs t).2 → K (i64 (beginR R.abs t).1) s) : ACalls Try.prog 53 [.ptr R.id 0, i64 t] K st := by
  have f := cells_facts hR.cells
  have g := cells_facts hR.txs
  unfold beginR at h
  by_cases c : 0 ≤ t ∧ t < 8
  · obtain ⟨y, hy, hg⟩ := hR.at c
    rw [hg] at h
    have d := rx_all hy
    have c1 : (t < 0) = False := eq_false (by omega)
    have c2 : ((7 : Int) < t) = False := eq_false (by omega)
    have c3 : t < ((8 : Nat) : Int) := c.2
    cases hb : y.x.is with
    | true =>
      rw [if_neg (by rw [hb]; simp)] at h
      refine acalls_go_pure [] Try.func53 rfl Try.results53 Try.ntmps53 ?_
      simp only [go_sem, reduceCtorEq, Nat.reduceAdd, Nat.reduceMul, Nat.reduceLeDiff, Nat.reduceLT, Int.reduceLE, Int.reduceLT, Int.reduceEq, Nat.reduceBEq, Nat.reduceEqDiff, f.1, f.2.1, f.2.2, RG.cells, g.1, g.2.1, g.2.2, d.1, d.2.1, d.2.2.1, d.2.2.2.1, d.2.2.2.2.1, d.2.2.2.2.2.1, d.2.2.2.2.2.2.1, d.2.2.2.2.2.2.2, c.1, c1, c2, c3, hb]
      exact fin_sc (h st R hR (RFr.refl _ _) rfl)
    | false =>
      rw [if_pos ⟨c.1, c.2, hb⟩] at h
      refine acalls_conv ?_
      refine acalls_go (M := []) Try.func53 rfl Try.results53 Try.ntmps53 ?_
      simp only [go_sem, reduceCtorEq, Nat.reduceAdd, Nat.reduceMul, Nat.reduceLeDiff, Nat.reduceLT, Int.reduceLE, Int.reduceLT, Int.reduceEq, Nat.reduceBEq, Nat.reduceEqDiff, f.1, f.2.1, f.2.2, RG.cells, g.1, g.2.1, g.2.2, d.1, d.2.1, d.2.2.1, d.2.2.2.1, d.2.2.2.2.1, d.2.2.2.2.2.1, d.2.2.2.2.2.2.1, d.2.2.2.2.2.2.2, c.1, c1, c2, c3, hb]
      refine awp_drawT [] [0, 0, 0, 0, 0, 0, 0, 0, 0, 0, 0, 1] (fun _ => True) Try.mixed rfl trivial ?_
      simp only [go_sem, reduceCtorEq, Nat.reduceAdd, Nat.reduceMul, Nat.reduceLeDiff, Nat.reduceLT, Int.reduceLE, Int.reduceLT, Int.reduceEq, Nat.reduceBEq, Nat.reduceEqDiff, drawU_n, drawU_0, drawU_1, drawU_2, drawU_3, isStore_s, f.1, f.2.1, f.2.2, RG.cells, g.1, g.2.1, g.2.2, c.1, c1, c2, c3]
      refine ⟨.agg (RT.raw ⟨true, R.clock, [], [], 1, false, 0, 0⟩), ?_, ?_⟩
      · simp only [go_sem, reduceCtorEq, Nat.reduceAdd, Nat.reduceMul, Nat.reduceLeDiff, Nat.reduceLT, Int.reduceLE, Int.reduceLT, Int.reduceEq, Nat.reduceBEq, Nat.reduceEqDiff, RT.raw]
        exact ⟨⟨[], by simp⟩, by simp only [go_sem, reduceCtorEq, Nat.reduceAdd, Nat.reduceMul, Nat.reduceLeDiff, Nat.reduceLT, Int.reduceLE, Int.reduceLT, Int.reduceEq, Nat.reduceBEq, Nat.reduceEqDiff]; exact ⟨ids_full0 _ _, ids_full0 _ _⟩, .inl rfl⟩
      obtain ⟨s2, R', k1, k2, k3, k4⟩ := ref_fresh hR hy ⟨true, R.clock, [], [], 1, false, 0, 0⟩ rfl rfl
      exact ⟨rfl, rfl, rfl, by rw [rx_len hR]; show t.toNat * 8 + 8 ≤ 64; omega, s2, k1, h _ _ k2 k3 k4⟩
  · rw [if_neg (fun q => c ⟨q.1, q.2.1⟩)] at h
    refine acalls_go_pure [] Try.func53 rfl Try.results53 Try.ntmps53 ?_
    by_cases c1 : t < 0
    · simp only [go_sem, reduceCtorEq, Nat.reduceAdd, Nat.reduceMul, Nat.reduceLeDiff, Nat.reduceLT, Int.reduceLE, Int.reduceLT, Int.reduceEq, Nat.reduceBEq, Nat.reduceEqDiff, f.1, f.2.1, f.2.2, RG.cells, c1]
      exact fin_sc (h st R hR (RFr.refl _ _) rfl)
    · have c2 : 7 < t := by omega
      simp only [go_sem, reduceCtorEq, Nat.reduceAdd, Nat.reduceMul, Nat.reduceLeDiff, Nat.reduceLT, Int.reduceLE, Int.reduceLT, Int.reduceEq, Nat.reduceBEq, Nat.reduceEqDiff, f.1, f.2.1, f.2.2, RG.cells, c1, c2]
      exact fin_sc (h st R hR (RFr.refl _ _) rfl)

end Go.Proofs
