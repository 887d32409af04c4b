/- The reference: Write. -/
import Derived.Test.YteclbnjpijakbaaR6
set_option linter.unusedSimpArgs false
set_option linter.unusedVariables false
set_option maxRecDepth 8000
namespace Go.Proofs
open Go Go.AL

def writeR (R : RP) (t n v : Int) : Int × RP := if R.opn t = true ∧ R.is n = true then (0, R.put t { R.get t with puts := putR (R.get t).puts n v (R.get t).parts }) else (1, R)

theorem ref_puts {st : St} {R : RG} (hR : RefAt st R) {t : Nat} {y : RX} (hy : R.xs[t]? = some y) (ver : Nat) (l : List PW) :
    RefAt ((st.set y.pid (.arr ver 3 (l.flatMap pwSV))).set R.tid (.cells ((R.xs.set t { y with pver := ver, x := { y.x with puts := l } }).flatMap RX.cells))) (R.setX t { y with pver := ver, x := { y.x with puts := l } }) ∧
    RFr st R ((st.set y.pid (.arr ver 3 (l.flatMap pwSV))).set R.tid (.cells ((R.xs.set t { y with pver := ver, x := { y.x with puts := l } }).flatMap RX.cells))) (R.setX t { y with pver := ver, x := { y.x with puts := l } }) := by
  have r := hR.rne hy
  have p := hR.pne hy
  have hrp := hR.rpne hy hy
  have g : ∀ j, j ≠ R.tid → j ≠ y.pid → ((st.set y.pid (.arr ver 3 (l.flatMap pwSV))).set R.tid (.cells ((R.xs.set t { y with pver := ver, x := { y.x with puts := l } }).flatMap RX.cells)))[j]? = st[j]? := fun j a b => by
    rw [List.getElem?_set_ne (Ne.symm a), List.getElem?_set_ne (Ne.symm b)]
  refine ref_upd hR hy (y' := { y with pver := ver, x := { y.x with puts := l } }) rfl rfl rfl rfl ?_ ?_ ?_ hR.many (by simp) (fun j _ _ a _ b _ => g j a b) ?_ ?_ (.inl rfl) (.inl rfl)
  · exact (g _ hR.ne p.1.symm).trans hR.cells
  · exact (g _ hR.ntv.symm p.2.1.symm).trans hR.vars
  · exact List.getElem?_set_self (by simpa using lt_of_get hR.txs)
  · exact (g _ r.2.2 hrp).trans (hR.tok _ _ hy)
  · exact (List.getElem?_set_ne p.2.2.symm).trans (List.getElem?_set_self (lt_of_get (hR.puts _ _ hy)))

set_option maxHeartbeats 4000000 in
theorem rwrite_c {st : St} {R : RG} (hR : RefAt st R) {b : Nat} (hF : FineR b R.abs) (t n v : Int) (K : SV → St → Prop)
    (h : ∀ s R', RefAt s R' → RFr st R s R' → R'.abs = (writeR R.abs t n v).2 → K (i64 (writeR R.abs t n v).1) s) : ACalls Try.prog 55 [.ptr R.id 0, i64 t, i64 n, i64 v] K st := by
  refine acalls_go (M := []) Try.func55 rfl Try.results55 Try.ntmps55 ?_
  have f := cells_facts hR.cells
  have g := cells_facts hR.txs
  have hof := ropen_c hR t
  have his := ris_c hR n
  unfold writeR at h
  cases hb : R.abs.opn t with
  | false =>
    rw [hb] at hof
    rw [if_neg (by rw [hb]; simp)] at h
    simp only [go_sem, reduceCtorEq, Nat.reduceAdd, Nat.reduceMul, Nat.reduceLeDiff, Nat.reduceLT, Int.reduceLE, Int.reduceLT, Int.reduceEq, Nat.reduceBEq, Nat.reduceEqDiff]
    refine hof _ ?_
    simp only [go_sem, reduceCtorEq, Nat.reduceAdd, Nat.reduceMul, Nat.reduceLeDiff, Nat.reduceLT, Int.reduceLE, Int.reduceLT, Int.reduceEq, Nat.reduceBEq, Nat.reduceEqDiff]
    refine his _ ?_
    simp only [go_sem, reduceCtorEq, Nat.reduceAdd, Nat.reduceMul, Nat.reduceLeDiff, Nat.reduceLT, Int.reduceLE, Int.reduceLT, Int.reduceEq, Nat.reduceBEq, Nat.reduceEqDiff]
    exact h st R hR (RFr.refl _ _) rfl
  | true =>
    rw [hb] at hof
    cases hi : R.abs.is n with
    | false =>
      rw [hi] at his
      rw [if_neg (by rw [hi]; simp)] at h
      simp only [go_sem, reduceCtorEq, Nat.reduceAdd, Nat.reduceMul, Nat.reduceLeDiff, Nat.reduceLT, Int.reduceLE, Int.reduceLT, Int.reduceEq, Nat.reduceBEq, Nat.reduceEqDiff]
      refine hof _ ?_
      simp only [go_sem, reduceCtorEq, Nat.reduceAdd, Nat.reduceMul, Nat.reduceLeDiff, Nat.reduceLT, Int.reduceLE, Int.reduceLT, Int.reduceEq, Nat.reduceBEq, Nat.reduceEqDiff]
      refine his _ ?_
      simp only [go_sem, reduceCtorEq, Nat.reduceAdd, Nat.reduceMul, Nat.reduceLeDiff, Nat.reduceLT, Int.reduceLE, Int.reduceLT, Int.reduceEq, Nat.reduceBEq, Nat.reduceEqDiff]
      exact h st R hR (RFr.refl _ _) rfl
    | true =>
      rw [hi] at his
      rw [if_pos ⟨hb, hi⟩] at h
      have ho := ropn_get hb
      obtain ⟨y, hy, hg⟩ := hR.at ho.1
      rw [hg] at h
      have d := rx_all hy
      have c3 : t < ((8 : Nat) : Int) := ho.1.2
      have hpu := hF.puts _ _ (hF.at hy)
      have hsm := hF.small
      have hput := rput_c (hR.puts _ _ hy) (by omega) n v y.x.parts
      have key := ref_puts hR hy (pver y.pver y.x.puts n y.x.parts) (putR y.x.puts n v y.x.parts)
      have hne := (hR.pne hy).2.2
      have hne' := hne.symm
      simp only [go_sem, reduceCtorEq, Nat.reduceAdd, Nat.reduceMul, Nat.reduceLeDiff, Nat.reduceLT, Int.reduceLE, Int.reduceLT, Int.reduceEq, Nat.reduceBEq, Nat.reduceEqDiff]
      refine hof _ ?_
      simp only [go_sem, reduceCtorEq, Nat.reduceAdd, Nat.reduceMul, Nat.reduceLeDiff, Nat.reduceLT, Int.reduceLE, Int.reduceLT, Int.reduceEq, Nat.reduceBEq, Nat.reduceEqDiff]
      refine his _ ?_
      simp only [go_sem, reduceCtorEq, Nat.reduceAdd, Nat.reduceMul, Nat.reduceLeDiff, Nat.reduceLT, Int.reduceLE, Int.reduceLT, Int.reduceEq, Nat.reduceBEq, Nat.reduceEqDiff]
      refine awp_drawT [] [2, 2, 2, 2, 2, 0, 0, 0, 0, 0, 0, 0, 0, 0, 0, 0, 0, 0, 0, 0, 0, 0, 0, 3, 2, 2, 1] (fun s => s[R.id]? = some (.cells R.cells)) Try.mixed rfl hR.cells ?_
      simp only [go_sem, reduceCtorEq, Nat.reduceAdd, Nat.reduceMul, Nat.reduceLeDiff, Nat.reduceLT, Int.reduceLE, Int.reduceLT, Int.reduceEq, Nat.reduceBEq, Nat.reduceEqDiff, drawU_n, drawU_0, drawU_1, drawU_2, drawU_3, isStore_s, f.1, f.2.1, f.2.2, RG.cells, g.1, g.2.1, g.2.2, d.1, d.2.1, d.2.2.1, d.2.2.2.1, d.2.2.2.2.1, d.2.2.2.2.2.1, d.2.2.2.2.2.2.1, d.2.2.2.2.2.2.2, ho.1.1, c3]
      refine ⟨fun s hs => ?_, _, _, hput _ ⟨rfl, rfl⟩, ?_⟩
      · have f2 := cells_facts hs
        simp only [go_sem, reduceCtorEq, Nat.reduceAdd, Nat.reduceMul, Nat.reduceLeDiff, Nat.reduceLT, Int.reduceLE, Int.reduceLT, Int.reduceEq, Nat.reduceBEq, Nat.reduceEqDiff, f2.1, f2.2.1, f2.2.2]
      have k3 : (st.set y.pid (.arr (pver y.pver y.x.puts n y.x.parts) 3 ((putR y.x.puts n v y.x.parts).flatMap pwSV)))[R.tid]? = some (.cells (R.xs.flatMap RX.cells)) := (List.getElem?_set_ne hne).trans hR.txs
      have k1 : (st.set y.pid (.arr (pver y.pver y.x.puts n y.x.parts) 3 ((putR y.x.puts n v y.x.parts).flatMap pwSV)))[R.id]? = some (.cells R.cells) := (List.getElem?_set_ne (hR.pne hy).1).trans hR.cells
      have g3 := cells_facts k3
      simp only [go_sem, reduceCtorEq, Nat.reduceAdd, Nat.reduceMul, Nat.reduceLeDiff, Nat.reduceLT, Int.reduceLE, Int.reduceLT, Int.reduceEq, Nat.reduceBEq, Nat.reduceEqDiff, g3.1, g3.2.1, g3.2.2, d.2.2.2.2.1]
      refine ⟨k1, by rw [rx_len hR]; omega, (List.getElem?_set_ne hR.ne.symm).trans k1, ?_⟩
      refine st_cells (rx_put (y' := { y with pver := pver y.pver y.x.puts n y.x.parts, x := { y.x with puts := putR y.x.puts n v y.x.parts } }) hy 3 [.arr y.pid (pver y.pver y.x.puts n y.x.parts) (putR y.x.puts n v y.x.parts).length, i64 y.x.parts, .sc (.bool y.x.commits), i64 y.x.stamp, i64 y.x.done] rfl (by decide) rfl) ?_
      exact h _ _ key.1 key.2 (rabs_put R t _)

end Go.Proofs
