/- The harness: wrote, without. -/
import Derived.Test.YteclbnjpijakbaaH2
import Derived.Test.YteclbnjpijakbaaP13
set_option linter.unusedSimpArgs false
set_option linter.unusedVariables false
set_option maxRecDepth 8000
namespace Go.Proofs
open Go Go.AL

/-- Has a transaction written a var? -/
def hasN (l : List PW) (n : Int) : Bool := l.any fun p => p.n == n
def wroteR (R : RP) (t n : Int) : Bool := if 0 ≤ t ∧ t < 8 then hasN (R.get t).puts n else false

set_option maxHeartbeats 4000000 in
theorem wrote_c {st : St} {R : RG} (hR : RefAt st R) {b : Nat} (hF : FineR b R.abs) (hb : b ≤ 90000) (t n : Int) (K : SV → St → Prop) (h : K (.sc (.bool (wroteR R.abs t n))) st) : ACalls Try.prog 26 [.ptr R.id 0, i64 t, i64 n] K st := by
  refine acalls_go_pure [] Try.func26 rfl Try.results26 Try.ntmps26 ?_
  have f := cells_facts hR.cells
  have g := cells_facts hR.txs
  unfold wroteR at h
  by_cases c : 0 ≤ t ∧ t < 8
  · rw [if_pos c] at h
    have b1 : (t < 0) = False := eq_false (by omega)
    have b2 : (7 < t) = False := eq_false (by omega)
    have c3 : t < ((8 : Nat) : Int) := c.2
    obtain ⟨y, hy, hg⟩ := hR.at c
    rw [hg] at h
    have d := rx_all hy
    have v := arr_facts (hR.puts _ _ hy)
    have hpu := hF.puts _ _ (hF.at hy)
    simp only [go_sem, reduceCtorEq, Nat.reduceAdd, Nat.reduceMul, Nat.reduceLeDiff, Nat.reduceLT, Int.reduceLE, Int.reduceLT, Int.reduceEq, Nat.reduceBEq, Nat.reduceEqDiff, b1, b2]
    refine awp_rounds [] (fun m e s => ∃ (k : Nat), k + m = y.x.puts.length ∧ hasN y.x.puts n = hasN (y.x.puts.drop k) n ∧ e = [.ptr R.id 0, i64 t, i64 n, .any, .any, .any, .any, i64 k, .any, .any, .any, .any, .any, .any, .any, .any, .any, .any, .any, .any, .any, .any, .any, .any, .any, .any, .any, .any, .any, .any, .any, .any, .any, .any, .any, .any, .any, .any, .any, .any, .any] ∧ s = st) (n := y.x.puts.length) ?_ ⟨0, by omega, rfl, rfl, rfl⟩ ?_
    · repeat (first | exact leEnv_nil | refine leEnv_any _ ?_ | refine leEnv_same _ ?_ | refine leEnv_norm _ ?_)
    rintro m e s ⟨k, hkm, hv, rfl, rfl⟩
    by_cases hlt : k < y.x.puts.length
    · have c1 : (k : Int) < (y.x.puts.length : Int) := by omega
      have c0 : (0 : Int) ≤ (k : Int) := by omega
      have hw := wrapS k (by omega)
      have hk : y.x.puts[k]? = some (y.x.puts.getD k default) := by simp [List.getD_eq_getElem?_getD, hlt]
      have hd : y.x.puts.drop k = y.x.puts.getD k default :: y.x.puts.drop (k + 1) := by
        rw [List.drop_eq_getElem_cons hlt]; simp [List.getD_eq_getElem?_getD, hlt]
      obtain ⟨p, hpd⟩ : ∃ p, p = y.x.puts.getD k default := ⟨_, rfl⟩
      rw [← hpd] at hk hd
      have q := pw_all hk
      have hcons : hasN (p :: y.x.puts.drop (k + 1)) n = (p.n == n || hasN (y.x.puts.drop (k + 1)) n) := rfl
      rw [hd, hcons] at hv
      by_cases e : p.n = n
      · have eb : (p.n == n) = true := by simp [e]
        rw [eb, Bool.true_or] at hv
        rw [hv] at h
        simp only [go_sem, reduceCtorEq, Nat.reduceAdd, Nat.reduceMul, Nat.reduceLeDiff, Nat.reduceLT, Int.reduceLE, Int.reduceLT, Int.reduceEq, Nat.reduceBEq, Nat.reduceEqDiff, f.1, f.2.1, f.2.2, RG.cells, g.1, g.2.1, g.2.2, d.1, d.2.1, d.2.2.1, d.2.2.2.1, d.2.2.2.2.1, d.2.2.2.2.2.1, d.2.2.2.2.2.2.1, d.2.2.2.2.2.2.2, v.1, v.2.1, v.2.2.1, v.2.2.2, c.1, c3, c0, c1, q.1, q.2.1, q.2.2, eb]
        exact fin_sc h
      · have eb : (p.n == n) = false := by simp [e]
        rw [eb, Bool.false_or] at hv
        simp only [go_sem, reduceCtorEq, Nat.reduceAdd, Nat.reduceMul, Nat.reduceLeDiff, Nat.reduceLT, Int.reduceLE, Int.reduceLT, Int.reduceEq, Nat.reduceBEq, Nat.reduceEqDiff, f.1, f.2.1, f.2.2, RG.cells, g.1, g.2.1, g.2.2, d.1, d.2.1, d.2.2.1, d.2.2.2.1, d.2.2.2.2.1, d.2.2.2.2.2.1, d.2.2.2.2.2.2.1, d.2.2.2.2.2.2.2, v.1, v.2.1, v.2.2.1, v.2.2.2, c.1, c3, c0, c1, q.1, q.2.1, q.2.2, eb, hw]
        refine ⟨m - 1, _, by omega, ?_, k + 1, by omega, hv, rfl⟩
        repeat (first | exact leEnv_nil | refine leEnv_any _ ?_ | refine leEnv_same _ ?_ | refine leEnv_norm _ ?_)
    · obtain rfl : k = y.x.puts.length := by omega
      rw [List.drop_length] at hv
      rw [hv] at h
      simp only [go_sem, reduceCtorEq, Nat.reduceAdd, Nat.reduceMul, Nat.reduceLeDiff, Nat.reduceLT, Int.reduceLE, Int.reduceLT, Int.reduceEq, Nat.reduceBEq, Nat.reduceEqDiff, f.1, f.2.1, f.2.2, RG.cells, g.1, g.2.1, g.2.2, d.1, d.2.1, d.2.2.1, d.2.2.2.1, d.2.2.2.2.1, d.2.2.2.2.2.1, d.2.2.2.2.2.2.1, d.2.2.2.2.2.2.2, v.1, v.2.1, v.2.2.1, v.2.2.2, c.1, c3, Int.lt_irrefl]
      exact fin_sc h
  · rw [if_neg c] at h
    by_cases b1 : t < 0
    · simp only [go_sem, reduceCtorEq, Nat.reduceAdd, Nat.reduceMul, Nat.reduceLeDiff, Nat.reduceLT, Int.reduceLE, Int.reduceLT, Int.reduceEq, Nat.reduceBEq, Nat.reduceEqDiff, b1]
      exact fin_sc h
    · have b2 : 7 < t := by omega
      simp only [go_sem, reduceCtorEq, Nat.reduceAdd, Nat.reduceMul, Nat.reduceLeDiff, Nat.reduceLT, Int.reduceLE, Int.reduceLT, Int.reduceEq, Nat.reduceBEq, Nat.reduceEqDiff, b1, b2]
      exact fin_sc h

def snV (s : SN) : SV := .agg [i64 s.t, i64 s.n, i64 s.v]

theorem app_seen {n : Nat} (h : n ≤ 1000000) : AppOk Try.prog 47 47 3 n := appOk_of Try.aelem47 Try.aelem47 Try.asize59 Try.azero59 rfl Try.abytes59 (by omega) h

set_option maxHeartbeats 4000000 in
theorem without_c {st : St} (m : AL.Mode) {l : List SN} (hl : l.length ≤ 100000) (t : Int) (K : SV → St → Prop) (h : ∀ ver, K (.slice (.own st.length ver) 3 ((withoutL l t).map snV)) (st ++ [.tok ver])) : ACalls Try.prog 27 [.slice m 3 (l.map snV), i64 t] K st := by
  refine acalls_go (M := []) Try.func27 rfl Try.results27 Try.ntmps27 ?_
  simp only [go_sem, reduceCtorEq, Nat.reduceAdd, Nat.reduceMul, Nat.reduceLeDiff, Nat.reduceLT, Int.reduceLE, Int.reduceLT, Int.reduceEq, Nat.reduceBEq, Nat.reduceEqDiff]
  refine awp_own 5 3 0 rfl ?_
  simp only [go_sem]
  refine awp_rounds [] (fun q e s => ∃ (k ver : Nat), k + q = l.length ∧ e = [.slice m 3 (l.map snV), i64 t, .any, .any, .any, .slice (.own st.length ver) 3 ((withoutL (l.take k) t).map snV), i64 k, .any, .any, .any, .any, .any, .any, .any, .any, .any, .any, .any, .any, .any, .any, .any, .any, .any, .any, .any, .any, .any] ∧ s = st ++ [.tok ver]) (n := l.length) ?_ ⟨0, 0, by omega, rfl, rfl⟩ ?_
  · repeat (first | exact leEnv_nil | refine leEnv_any _ ?_ | refine leEnv_same _ ?_ | refine leEnv_norm _ ?_)
  rintro q e s ⟨k, ver, hkm, rfl, rfl⟩
  by_cases hlt : k < l.length
  · have c1 : (k : Int) < (l.length : Int) := by omega
    have c0 : (0 : Int) ≤ (k : Int) := by omega
    have hw := wrapS k (by omega)
    obtain ⟨p, hp⟩ : ∃ p, p = l.getD k default := ⟨_, rfl⟩
    have hgd : (l.map snV).getD k .any = .agg [i64 p.t, i64 p.n, i64 p.v] := by rw [hp]; simp [List.getD_eq_getElem?_getD, hlt, snV]
    have ht : l.take (k + 1) = l.take k ++ [p] := by
      rw [List.take_succ_eq_append_getElem hlt, hp]; simp [List.getD_eq_getElem?_getD, hlt]
    have hle : (withoutL (l.take k) t).length ≤ k := by
      have := List.length_filter_le (fun s : SN => decide (s.t ≠ t)) (l.take k)
      unfold withoutL; simp at this ⊢; omega
    have happ := app_seen (n := (withoutL (l.take k) t).length + 1) (by omega)
    by_cases e : p.t = t
    · have eb : (p.t != t) = false := by simp [e]
      have er : withoutL (l.take (k + 1)) t = withoutL (l.take k) t := by rw [ht]; simp [withoutL, e]
      simp only [go_sem, reduceCtorEq, Nat.reduceAdd, Nat.reduceMul, Nat.reduceLeDiff, Nat.reduceLT, Int.reduceLE, Int.reduceLT, Int.reduceEq, Nat.reduceBEq, Nat.reduceEqDiff, c1, c0, hgd, eb, hw, Int.toNat_natCast]
      refine ⟨q - 1, _, by omega, ?_, k + 1, ver, by omega, rfl, rfl⟩
      rw [er]
      repeat (first | exact leEnv_nil | refine leEnv_any _ ?_ | refine leEnv_same _ ?_ | refine leEnv_norm _ ?_)
    · have eb : (p.t != t) = true := by simpa using e
      have er : withoutL (l.take (k + 1)) t = withoutL (l.take k) t ++ [p] := by rw [ht]; simp [withoutL, e]
      simp only [go_sem, reduceCtorEq, Nat.reduceAdd, Nat.reduceMul, Nat.reduceLeDiff, Nat.reduceLT, Int.reduceLE, Int.reduceLT, Int.reduceEq, Nat.reduceBEq, Nat.reduceEqDiff, c1, c0, hgd, eb, hw, Int.toNat_natCast]
      refine ⟨happ, q - 1, _, by omega, ?_, k + 1, ver + 1, by omega, rfl, rfl⟩
      rw [er, List.map_append]
      repeat (first | exact leEnv_nil | refine leEnv_any _ ?_ | refine leEnv_same _ ?_ | refine leEnv_norm _ ?_)
  · obtain rfl : k = l.length := by omega
    simp only [go_sem, reduceCtorEq, Nat.reduceAdd, Nat.reduceMul, Nat.reduceLeDiff, Nat.reduceLT, Int.reduceLE, Int.reduceLT, Int.reduceEq, Nat.reduceBEq, Nat.reduceEqDiff, Int.lt_irrefl, List.take_length]
    exact h ver

end Go.Proofs
