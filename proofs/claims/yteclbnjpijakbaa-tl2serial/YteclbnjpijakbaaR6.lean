/- The reference: put. -/
import Derived.Test.YteclbnjpijakbaaR5
set_option linter.unusedSimpArgs false
set_option linter.unusedVariables false
set_option maxRecDepth 8000
namespace Go.Proofs
open Go Go.AL

def putR : List PW → Int → Int → Int → List PW
  | [], n, v, p => [⟨n, v, p⟩]
  | q :: r, n, v, p => if q.n = n ∧ q.part = p then ⟨q.n, v, q.part⟩ :: r else q :: putR r n v p
def hasR : List PW → Int → Int → Bool
  | [], _, _ => false
  | q :: r, n, p => if q.n = n ∧ q.part = p then true else hasR r n p

theorem putR_len (l : List PW) (n v p : Int) : (putR l n v p).length = if hasR l n p = true then l.length else l.length + 1 := by
  induction l with
  | nil => rfl
  | cons q r ih =>
    unfold putR hasR
    split
    · simp
    · rw [List.length_cons, ih]
      split <;> simp

theorem putR_app {a b : List PW} {n v p : Int} (h : hasR a n p = false) : putR (a ++ b) n v p = a ++ putR b n v p ∧ hasR (a ++ b) n p = hasR b n p := by
  induction a with
  | nil => exact ⟨rfl, rfl⟩
  | cons q r ih =>
    unfold hasR at h
    split at h
    · cases h
    · rename_i c
      have := ih h
      rw [List.cons_append, putR, hasR, if_neg c, if_neg c, this.1, this.2]
      exact ⟨rfl, rfl⟩

/-- The places behind a put. -/
def pver (ver : Nat) (l : List PW) (n part : Int) : Nat := if hasR l n part = true then ver else ver + 1

set_option maxHeartbeats 4000000 in
theorem rput_c {st : St} {pid ver : Nat} {l : List PW} (hp : st[pid]? = some (.arr ver 3 (l.flatMap pwSV))) (hl : l.length ≤ 100000) (n v part : Int) (K : SV → St → Prop)
    (h : K (.arr pid (pver ver l n part) (putR l n v part).length) (st.set pid (.arr (pver ver l n part) 3 ((putR l n v part).flatMap pwSV)))) : ACalls Try.prog 80 [.arr pid ver l.length, i64 n, i64 v, i64 part] K st := by
  refine acalls_go (M := []) Try.func80 rfl Try.results80 Try.ntmps80 ?_
  have v' := arr_facts hp
  simp only [go_sem, reduceCtorEq, Nat.reduceAdd, Nat.reduceMul, Nat.reduceLeDiff, Nat.reduceLT, Int.reduceLE, Int.reduceLT, Int.reduceEq, Nat.reduceBEq, Nat.reduceEqDiff]
  refine awp_rounds [] (fun m e s => ∃ (k : Nat), k + m = l.length ∧ hasR (l.take k) n part = false ∧ e = [.arr pid ver l.length, i64 n, i64 v, i64 part, .any, .any, .any, .any, .any, i64 k, .any, .any, .any, .any, .any, .any, .any, .any, .any, .any, .any, .any, .any, .any, .any, .any, .any, .any, .any, .any, .any, .any, .any, .any, .any, .any, .any, .any, .any, .any, .any, .any, .any, .any, .any] ∧ s = st) (n := l.length) ?_ ⟨0, by omega, rfl, rfl, rfl⟩ ?_
  · repeat (first | exact leEnv_nil | refine leEnv_any _ ?_ | refine leEnv_same _ ?_ | refine leEnv_norm _ ?_)
  rintro m e s ⟨k, hkm, hno, rfl, rfl⟩
  have hta := putR_app (a := l.take k) (b := l.drop k) (v := v) hno
  rw [List.take_append_drop] at hta
  by_cases hlt : k < l.length
  · have c1 : (k : Int) < (l.length : Int) := by omega
    have c0 : (0 : Int) ≤ (k : Int) := by omega
    have hw := wrapS k (by omega)
    have hk : l[k]? = some (l.getD k default) := by simp [List.getD_eq_getElem?_getD, hlt]
    have hd : l.drop k = l.getD k default :: l.drop (k + 1) := by
      rw [List.drop_eq_getElem_cons hlt]; simp [List.getD_eq_getElem?_getD, hlt]
    have ht : l.take (k + 1) = l.take k ++ [l.getD k default] := by
      rw [List.take_succ_eq_append_getElem hlt]; simp [List.getD_eq_getElem?_getD, hlt]
    obtain ⟨p, hpd⟩ : ∃ p, p = l.getD k default := ⟨_, rfl⟩
    rw [← hpd] at hk hd ht
    have d := pw_all hk
    have hstep : ¬ (p.n = n ∧ p.part = part) → hasR (l.take (k + 1)) n part = false := by
      intro c
      rw [ht, (putR_app (v := v) hno).2, hasR, if_neg c]; rfl
    rw [hd] at hta
    by_cases e1 : p.n = n
    · have b1 : (p.n == n) = true := by simp [e1]
      by_cases e2 : p.part = part
      · have b2 : (p.part == part) = true := by simp [e2]
        rw [putR, hasR, if_pos ⟨e1, e2⟩, if_pos ⟨e1, e2⟩] at hta
        have hput : putR l n v part = l.set k ⟨p.n, v, p.part⟩ := by
          rw [hta.1, List.set_eq_take_append_cons_drop, if_pos hlt]
        have hlen : (putR l n v part).length = l.length := by rw [hput, List.length_set]
        have hpv : pver ver l n part = ver := by unfold pver; rw [if_pos hta.2]
        rw [hpv, hlen, hput] at h
        have hfl := flat_put (f := pwSV) pw_z hk (x' := ⟨p.n, v, p.part⟩) (j := 1) (v := [i64 v, i64 p.part]) (Nat.le_refl 3) rfl
        simp only [go_sem, reduceCtorEq, Nat.reduceAdd, Nat.reduceMul, Nat.reduceLeDiff, Nat.reduceLT, Int.reduceLE, Int.reduceLT, Int.reduceEq, Nat.reduceBEq, Nat.reduceEqDiff, v'.1, v'.2.1, v'.2.2.1, v'.2.2.2, c0, c1, d.1, d.2.1, d.2.2, b1, b2, hw]
        refine ⟨by rw [flat_len pw_z]; omega, ?_⟩
        rw [← hfl] at h
        exact h
      · have b2 : (p.part == part) = false := by simp [e2]
        simp only [go_sem, reduceCtorEq, Nat.reduceAdd, Nat.reduceMul, Nat.reduceLeDiff, Nat.reduceLT, Int.reduceLE, Int.reduceLT, Int.reduceEq, Nat.reduceBEq, Nat.reduceEqDiff, v'.1, v'.2.1, v'.2.2.1, v'.2.2.2, c0, c1, d.1, d.2.1, d.2.2, b1, b2, hw]
        refine ⟨m - 1, _, by omega, ?_, k + 1, by omega, hstep (fun c => e2 c.2), rfl⟩
        repeat (first | exact leEnv_nil | refine leEnv_any _ ?_ | refine leEnv_same _ ?_ | refine leEnv_norm _ ?_)
    · have b1 : (p.n == n) = false := by simp [e1]
      simp only [go_sem, reduceCtorEq, Nat.reduceAdd, Nat.reduceMul, Nat.reduceLeDiff, Nat.reduceLT, Int.reduceLE, Int.reduceLT, Int.reduceEq, Nat.reduceBEq, Nat.reduceEqDiff, v'.1, v'.2.1, v'.2.2.1, v'.2.2.2, c0, c1, d.1, d.2.1, d.2.2, b1, hw]
      refine ⟨m - 1, _, by omega, ?_, k + 1, by omega, hstep (fun c => e1 c.1), rfl⟩
      repeat (first | exact leEnv_nil | refine leEnv_any _ ?_ | refine leEnv_same _ ?_ | refine leEnv_norm _ ?_)
  · obtain rfl : k = l.length := by omega
    rw [List.drop_length] at hta
    rw [List.take_length] at hno
    have hta : putR l n v part = l ++ [⟨n, v, part⟩] := by rw [hta.1, List.take_length]; rfl
    have hpv : pver ver l n part = ver + 1 := by unfold pver; rw [if_neg (by rw [hno]; decide)]
    rw [hpv, hta, List.length_append, List.flatMap_append] at h
    have happ := app_puts (n := l.length + 1) (by omega)
    have htk : (l.flatMap pwSV).take (l.length * 3) = l.flatMap pwSV := List.take_of_length_le (by rw [flat_len pw_z]; omega)
    simp only [go_sem, reduceCtorEq, Nat.reduceAdd, Nat.reduceMul, Nat.reduceLeDiff, Nat.reduceLT, Int.reduceLE, Int.reduceLT, Int.reduceEq, Nat.reduceBEq, Nat.reduceEqDiff, v'.1, v'.2.1, v'.2.2.1, v'.2.2.2, Int.lt_irrefl, htk]
    exact ⟨happ, h⟩

end Go.Proofs
