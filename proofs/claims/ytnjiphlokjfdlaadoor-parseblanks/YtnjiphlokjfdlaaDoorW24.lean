/- The lexer: number. -/
import Derived.Test.YtnjiphlokjfdlaaDoorW23
set_option linter.unusedSimpArgs false
set_option linter.unusedVariables false
set_option maxRecDepth 8000
namespace Go.Proofs
open Go Go.AL
theorem span_mem {p : UInt8 → Bool} : ∀ {l : Tx}, ∀ c ∈ l.take (spanN p l), p c = true
  | [], c, h => by cases h
  | d :: l, c, h => by
    cases hd : p d with
    | true =>
      rw [spanN_t hd, List.take_succ_cons] at h
      rcases List.mem_cons.1 h with rfl | h
      · exact hd
      · exact span_mem c h
    | false => rw [spanN_f hd] at h; cases h
theorem st2_same {s : Tx} {rid tid a : Nat} {t : Tk} {st : St} (ht : TkAt tid t st) : st2 st rid tid s a t = st.set rid (.cells (rL s a)) := by
  unfold st2
  obtain ⟨h1, h2⟩ := List.getElem?_eq_some_iff.1 ht
  have : st.set tid (.cells (tkL t)) = st := by
    have h3 : tkL t = [.sc (.int .i64 t.kind), .sc (.string (ba t.text)), .sc (.int .i64 t.num), .sc (.int .i64 t.pos)] := rfl
    rw [h3, ← h2, List.set_getElem_self]
  rw [this]
/-- What number makes of digits. -/
def numF (w : Tx) (t : Tk) : Int × Tk := if 4611686018427387903 < valF w then (13, t) else (0, ⟨1, t.text, valF w, t.pos⟩)
set_option maxHeartbeats 4000000 in
theorem number_c {s : Tx} (hs : s.length ≤ 1000000) {rid tid a : Nat} (hne : rid ≠ tid) (ha : a < s.length) {t : Tk} {K : SV → St → Prop} {st : St} (hr : RAt s rid a st) (ht : TkAt tid t st) {z : Nat} {w : Tx} (hz : spanN digitB (s.drop a) = z) (hw : (s.drop a).take z = w)
    (hk : K (.sc (.int .i64 (numF w t).1)) (st2 st rid tid s (a + z) (numF w t).2)) : ACalls Tryd.prog 40 [.ptr rid 0, .ptr tid 0] K st := by
  refine acalls_go_mod [] Tryd.func40 rfl Tryd.results40 Tryd.ntmps40 ?_
  have hall : ∀ c ∈ w, digitB c = true := by subst hz; subst hw; exact fun c hc => span_mem c hc
  have hle : w.length ≤ 1000000 := by subst hw; rw [List.length_take, List.length_drop]; omega
  have hok := trim_ok w hall
  have hvt := val_trim w
  have hlt : (trimD w).length ≤ 1000000 := by
    unfold trimD; split
    · simp
    · exact Nat.le_trans (List.dropWhile_sublist _).length_le hle
  have z1 := cells_facts (tat_ne (rid := rid) (X := .cells (rL s (a + z))) hne ht)
  have hrd : readF (trimD w) = if 4611686018427387903 < valF w then (0, 13) else ((valF w : Int), 0) := by unfold readF; rw [hvt]
  have d13 : ((13 : Int) != 0) = true := rfl
  have d0 : ((0 : Int) != 0) = false := rfl
  unfold numF at hk
  have fin13 : ∀ h : 4611686018427387903 < valF w, K (.sc (.int .i64 13)) (st.set rid (.cells (rL s (a + z)))) := fun h => by
    rw [if_pos h, st2_same ht] at hk; exact hk
  by_cases hE : w.dropWhile (· == 48) = []
  · have hT : trimD w = [48] := by unfold trimD; rw [if_pos hE]
    have c1 : (w.dropWhile (· == 48) == []) = true := by rw [hE]; rfl
    by_cases hx : 4611686018427387903 < valF w
    · rw [if_pos hx] at hrd
      have r1 := congrArg Prod.fst hrd
      have r2 := congrArg Prod.snd hrd
      dsimp only at r1 r2
      simp only [go_sem, reduceCtorEq, Nat.reduceAdd, Nat.reduceMul, Nat.reduceLeDiff, Nat.reduceLT, Int.reduceLE, Int.reduceLT, Int.reduceEq, Nat.reduceBEq, Nat.reduceEqDiff]
      refine run_c2 hs (by omega) digits_c rfl hr hz hw ?_
      simp only [go_sem, reduceCtorEq, Nat.reduceAdd, Nat.reduceMul, Nat.reduceLeDiff, Nat.reduceLT, Int.reduceLE, Int.reduceLT, Int.reduceEq, Nat.reduceBEq, Nat.reduceEqDiff]
      first | (unfold ACallsH; simp only [put_some, put_none', ev_tmp, List.set_cons_succ, List.set_cons_zero, List.getD_cons_succ, List.getD_cons_zero]) | skip
      refine trimLeft_c (by decide) ?_
      simp only [go_sem, reduceCtorEq, Nat.reduceAdd, Nat.reduceMul, Nat.reduceLeDiff, Nat.reduceLT, Int.reduceLE, Int.reduceLT, Int.reduceEq, Nat.reduceBEq, Nat.reduceEqDiff, c1]
      first | (unfold ACallsH; simp only [put_some, put_none', ev_tmp, List.set_cons_succ, List.set_cons_zero, List.getD_cons_succ, List.getD_cons_zero]) | skip
      refine readI_c (d := [48]) (by decide) (by decide) (by decide) (by decide) ?_
      rw [← hT, r1, r2]
      simp only [go_sem, reduceCtorEq, Nat.reduceAdd, Nat.reduceMul, Nat.reduceLeDiff, Nat.reduceLT, Int.reduceLE, Int.reduceLT, Int.reduceEq, Nat.reduceBEq, Nat.reduceEqDiff, d13]
      exact fin_r1 (ids_scv _) (fin13 hx) rfl
    · rw [if_neg hx] at hrd hk
      have r1 := congrArg Prod.fst hrd
      have r2 := congrArg Prod.snd hrd
      dsimp only at r1 r2 hk
      simp only [go_sem, reduceCtorEq, Nat.reduceAdd, Nat.reduceMul, Nat.reduceLeDiff, Nat.reduceLT, Int.reduceLE, Int.reduceLT, Int.reduceEq, Nat.reduceBEq, Nat.reduceEqDiff]
      refine run_c2 hs (by omega) digits_c rfl hr hz hw ?_
      simp only [go_sem, reduceCtorEq, Nat.reduceAdd, Nat.reduceMul, Nat.reduceLeDiff, Nat.reduceLT, Int.reduceLE, Int.reduceLT, Int.reduceEq, Nat.reduceBEq, Nat.reduceEqDiff]
      first | (unfold ACallsH; simp only [put_some, put_none', ev_tmp, List.set_cons_succ, List.set_cons_zero, List.getD_cons_succ, List.getD_cons_zero]) | skip
      refine trimLeft_c (by decide) ?_
      simp only [go_sem, reduceCtorEq, Nat.reduceAdd, Nat.reduceMul, Nat.reduceLeDiff, Nat.reduceLT, Int.reduceLE, Int.reduceLT, Int.reduceEq, Nat.reduceBEq, Nat.reduceEqDiff, c1]
      first | (unfold ACallsH; simp only [put_some, put_none', ev_tmp, List.set_cons_succ, List.set_cons_zero, List.getD_cons_succ, List.getD_cons_zero]) | skip
      refine readI_c (d := [48]) (by decide) (by decide) (by decide) (by decide) ?_
      rw [← hT, r1, r2]
      simp only [go_sem, reduceCtorEq, Nat.reduceAdd, Nat.reduceMul, Nat.reduceLeDiff, Nat.reduceLT, Int.reduceLE, Int.reduceLT, Int.reduceEq, Nat.reduceBEq, Nat.reduceEqDiff, d0, z1.1, z1.2.1, z1.2.2]
      exact fin_2c hne (ids_scv _) hk rfl
  · have hT : trimD w = w.dropWhile (· == 48) := by unfold trimD; rw [if_neg hE]
    rw [hT] at hok hlt hrd
    have c1 : (w.dropWhile (· == 48) == []) = false := by simp [hE]
    by_cases hx : 4611686018427387903 < valF w
    · rw [if_pos hx] at hrd
      have r1 := congrArg Prod.fst hrd
      have r2 := congrArg Prod.snd hrd
      dsimp only at r1 r2
      simp only [go_sem, reduceCtorEq, Nat.reduceAdd, Nat.reduceMul, Nat.reduceLeDiff, Nat.reduceLT, Int.reduceLE, Int.reduceLT, Int.reduceEq, Nat.reduceBEq, Nat.reduceEqDiff]
      refine run_c2 hs (by omega) digits_c rfl hr hz hw ?_
      simp only [go_sem, reduceCtorEq, Nat.reduceAdd, Nat.reduceMul, Nat.reduceLeDiff, Nat.reduceLT, Int.reduceLE, Int.reduceLT, Int.reduceEq, Nat.reduceBEq, Nat.reduceEqDiff]
      first | (unfold ACallsH; simp only [put_some, put_none', ev_tmp, List.set_cons_succ, List.set_cons_zero, List.getD_cons_succ, List.getD_cons_zero]) | skip
      refine trimLeft_c (by decide) ?_
      simp only [go_sem, reduceCtorEq, Nat.reduceAdd, Nat.reduceMul, Nat.reduceLeDiff, Nat.reduceLT, Int.reduceLE, Int.reduceLT, Int.reduceEq, Nat.reduceBEq, Nat.reduceEqDiff, c1]
      first | (unfold ACallsH; simp only [put_some, put_none', ev_tmp, List.set_cons_succ, List.set_cons_zero, List.getD_cons_succ, List.getD_cons_zero]) | skip
      refine readI_c hlt hok.1 hok.2.1 hok.2.2 ?_
      rw [r1, r2]
      simp only [go_sem, reduceCtorEq, Nat.reduceAdd, Nat.reduceMul, Nat.reduceLeDiff, Nat.reduceLT, Int.reduceLE, Int.reduceLT, Int.reduceEq, Nat.reduceBEq, Nat.reduceEqDiff, d13]
      exact fin_r1 (ids_scv _) (fin13 hx) rfl
    · rw [if_neg hx] at hrd hk
      have r1 := congrArg Prod.fst hrd
      have r2 := congrArg Prod.snd hrd
      dsimp only at r1 r2 hk
      simp only [go_sem, reduceCtorEq, Nat.reduceAdd, Nat.reduceMul, Nat.reduceLeDiff, Nat.reduceLT, Int.reduceLE, Int.reduceLT, Int.reduceEq, Nat.reduceBEq, Nat.reduceEqDiff]
      refine run_c2 hs (by omega) digits_c rfl hr hz hw ?_
      simp only [go_sem, reduceCtorEq, Nat.reduceAdd, Nat.reduceMul, Nat.reduceLeDiff, Nat.reduceLT, Int.reduceLE, Int.reduceLT, Int.reduceEq, Nat.reduceBEq, Nat.reduceEqDiff]
      first | (unfold ACallsH; simp only [put_some, put_none', ev_tmp, List.set_cons_succ, List.set_cons_zero, List.getD_cons_succ, List.getD_cons_zero]) | skip
      refine trimLeft_c (by decide) ?_
      simp only [go_sem, reduceCtorEq, Nat.reduceAdd, Nat.reduceMul, Nat.reduceLeDiff, Nat.reduceLT, Int.reduceLE, Int.reduceLT, Int.reduceEq, Nat.reduceBEq, Nat.reduceEqDiff, c1]
      first | (unfold ACallsH; simp only [put_some, put_none', ev_tmp, List.set_cons_succ, List.set_cons_zero, List.getD_cons_succ, List.getD_cons_zero]) | skip
      refine readI_c hlt hok.1 hok.2.1 hok.2.2 ?_
      rw [r1, r2]
      simp only [go_sem, reduceCtorEq, Nat.reduceAdd, Nat.reduceMul, Nat.reduceLeDiff, Nat.reduceLT, Int.reduceLE, Int.reduceLT, Int.reduceEq, Nat.reduceBEq, Nat.reduceEqDiff, d0, z1.1, z1.2.1, z1.2.2]
      exact fin_2c hne (ids_scv _) hk rfl
end Go.Proofs
