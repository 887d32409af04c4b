/- The reference: Sorted. -/
import Derived.Test.YteclbnjpijakbaaR4
set_option linter.unusedSimpArgs false
set_option linter.unusedVariables false
set_option maxRecDepth 8000
namespace Go.Proofs
open Go Go.AL

def pwV (p : PW) : SV := .agg [i64 p.n, i64 p.v, i64 p.part]

def scanR (part last : Int) : List PW → Option PW → Option PW
  | [], b => b
  | p :: r, b => scanR part last r (if p.part = part ∧ last < p.n ∧ (∀ q, b = some q → p.n < q.n) then some p else b)
def sortG (part : Int) (l : List PW) : Nat → Int → List PW
  | 0, _ => []
  | f + 1, last => match scanR part last l none with
    | none => []
    | some p => p :: sortG part l f p.n
def sortR (part : Int) (l : List PW) : List PW := sortG part l (l.length + 1) (-1)

def left (part last : Int) (l : List PW) : Nat := (l.filter fun p => decide (p.part = part) && decide (last < p.n)).length

theorem scan_some {part last : Int} {l : List PW} {b : Option PW} {p : PW} (h : scanR part last l b = some p) : b = some p ∨ (p ∈ l ∧ p.part = part ∧ last < p.n) := by
  induction l generalizing b with
  | nil => exact .inl h
  | cons q r ih =>
    rcases ih h with h1 | h1
    · split at h1
      · rename_i c
        cases h1
        exact .inr ⟨by simp, c.1, c.2.1⟩
      · exact .inl h1
    · exact .inr ⟨by simp [h1.1], h1.2⟩

theorem left_lt {part last : Int} {l : List PW} {p : PW} (h : p ∈ l) (h1 : p.part = part) (h2 : last < p.n) : left part p.n l < left part last l := by
  unfold left
  induction l with
  | nil => cases h
  | cons q r ih =>
    have hmono : ∀ r : List PW, (r.filter fun q => decide (q.part = part) && decide (p.n < q.n)).length ≤ (r.filter fun q => decide (q.part = part) && decide (last < q.n)).length := by
      intro r
      induction r with
      | nil => simp
      | cons a r ih =>
        simp only [List.filter_cons]
        by_cases c1 : a.part = part <;> by_cases c2 : p.n < a.n <;> by_cases c3 : last < a.n <;> simp [c1, c2, c3] <;> omega
    cases h with
    | head =>
      have := hmono r
      simp only [List.filter_cons, h1, h2, decide_true, Bool.true_and, Int.lt_irrefl, decide_false, Bool.and_false, Bool.false_eq_true, if_false, if_true, List.length_cons]
      omega
    | tail _ h =>
      have := ih h
      simp only [List.filter_cons]
      by_cases c1 : q.part = part <;> by_cases c2 : p.n < q.n <;> by_cases c3 : last < q.n <;> simp [c1, c2, c3] <;> omega

theorem left_le (part last : Int) (l : List PW) : left part last l ≤ l.length := List.length_filter_le _ _

/-- What lies where. -/
theorem pw_all {l : List PW} {k : Nat} {p : PW} (h : l[k]? = some p) :
    (l.flatMap pwSV).drop (k * 3) = i64 p.n :: i64 p.v :: i64 p.part :: (l.flatMap pwSV).drop (k * 3 + 3) ∧
    (l.flatMap pwSV).drop (k * 3 + 1) = i64 p.v :: i64 p.part :: (l.flatMap pwSV).drop (k * 3 + 3) ∧
    (l.flatMap pwSV).drop (k * 3 + 2) = i64 p.part :: (l.flatMap pwSV).drop (k * 3 + 3) :=
  ⟨flat_drop pw_z h (j := 0) (by decide), flat_drop pw_z h (j := 1) (by decide), flat_drop pw_z h (j := 2) (by decide)⟩

def bI : Option Nat → Int
  | none => -1
  | some j => j
theorem bN : bI none = -1 := rfl
theorem bS {j : Nat} : bI (some j) = (j : Int) := rfl

theorem app_puts {n : Nat} (h : n ≤ 1000000) : AppOk Try.prog 48 48 3 n := appOk_of Try.aelem48 Try.aelem48 Try.asize61 Try.azero61 rfl Try.abytes61 (by omega) h

theorem ids_pws (n : Nat) (l : List PW) : Ids n (.slice .imm 3 (l.map pwV)) := by
  refine .slice _ _ _ (fun _ _ e => by cases e) fun i j hi hj => ?_
  simp only [List.length_map] at hi
  have e : (l.map pwV).getD i .any = pwV (l.getD i default) := by simp [List.getD_eq_getElem?_getD, hi]
  have hj3 : j < 3 := hj
  rw [e]
  match j, hj3 with
  | 0, _ => exact .sc _
  | 1, _ => exact .sc _
  | 2, _ => exact .sc _

set_option maxHeartbeats 4000000 in
theorem rsorted_c {st : St} {pid ver : Nat} {l : List PW} (hp : st[pid]? = some (.arr ver 3 (l.flatMap pwSV))) (hl : l.length ≤ 100000) (part : Int) (K : SV → St → Prop)
    (h : K (.slice .imm 3 ((sortR part l).map pwV)) st) : ACalls Try.prog 25 [.arr pid ver l.length, i64 part] K st := by
  refine acalls_go_pure [] Try.func25 rfl Try.results25 Try.ntmps25 ?_
  simp only [go_sem, reduceCtorEq, Nat.reduceAdd, Nat.reduceMul, Nat.reduceLeDiff, Nat.reduceLT, Int.reduceLE, Int.reduceLT, Int.reduceEq, Nat.reduceBEq, Nat.reduceEqDiff]
  refine awp_own 5 3 0 rfl ?_
  simp only [go_sem]
  refine awp_rounds [] (fun m e s => ∃ (X : List PW) (last : Int) (f ver' : Nat), left part last l ≤ f ∧ m = f ∧ X.length + f ≤ l.length ∧ sortR part l = X ++ sortG part l (f + 1) last ∧
    e = [.arr pid ver l.length, i64 part, .any, .any, .any, .slice (.own st.length ver') 3 (X.map pwV), i64 last, .any, .any, .any, .any, .any, .any, .any, .any, .any, .any, .any, .any, .any, .any, .any, .any, .any, .any, .any, .any, .any, .any, .any, .any, .any, .any, .any, .any, .any, .any, .any, .any, .any, .any, .any, .any, .any, .any, .any, .any, .any, .any, .any, .any, .any, .any, .any, .any, .any, .any, .any, .any, .any, .any, .any, .any, .any] ∧ s = st ++ [.tok ver']) (n := l.length) ?_ ⟨[], -1, l.length, 0, left_le _ _ _, rfl, by simp, rfl, rfl, rfl⟩ ?_
  · repeat (first | exact leEnv_nil | refine leEnv_any _ ?_ | refine leEnv_same _ ?_ | refine leEnv_norm _ ?_)
  rintro m e s ⟨X, last, f, ver', hf, rfl, hX, hs, rfl, rfl⟩
  have v := arr_facts (get_app hp [.tok ver'])
  simp only [go_sem, reduceCtorEq, Nat.reduceAdd, Nat.reduceMul, Nat.reduceLeDiff, Nat.reduceLT, Int.reduceLE, Int.reduceLT, Int.reduceEq, Nat.reduceBEq, Nat.reduceEqDiff]
  refine awp_rounds [] (fun q e s => ∃ (k : Nat) (b : Option Nat), k + q = l.length ∧ (∀ j, b = some j → j < l.length) ∧ scanR part last l none = scanR part last (l.drop k) (b.map fun j => l.getD j default) ∧
    e = [.arr pid ver l.length, i64 part, .any, .any, .any, .slice (.own st.length ver') 3 (X.map pwV), i64 last, i64 (bI b), i64 k, .any, .any, .any, .any, .any, .any, .any, .any, .any, .any, .any, .any, .any, .any, .any, .any, .any, .any, .any, .any, .any, .any, .any, .any, .any, .any, .any, .any, .any, .any, .any, .any, .any, .any, .any, .any, .any, .any, .any, .any, .any, .any, .any, .any, .any, .any, .any, .any, .any, .any, .any, .any, .any, .any, .any] ∧ s = st ++ [.tok ver']) (n := l.length) ?_ ⟨0, none, by omega, fun j hj => (by cases hj), rfl, rfl, rfl⟩ ?_
  · repeat (first | exact leEnv_nil | refine leEnv_any _ ?_ | refine leEnv_same _ ?_ | refine leEnv_norm _ ?_)
  rintro q e s ⟨k, b, hkq, hb, hsc, rfl, rfl⟩
  by_cases hlt : k < l.length
  · have c1 : (k : Int) < (l.length : Int) := by omega
    have c0 : (0 : Int) ≤ (k : Int) := by omega
    have hw := wrapS k (by omega)
    have hk : l[k]? = some (l.getD k default) := by simp [List.getD_eq_getElem?_getD, hlt]
    have hd : l.drop k = l.getD k default :: l.drop (k + 1) := by
      rw [List.drop_eq_getElem_cons hlt]; simp [List.getD_eq_getElem?_getD, hlt]
    obtain ⟨p, hpd⟩ : ∃ p, p = l.getD k default := ⟨_, rfl⟩
    rw [← hpd] at hk hd
    have d := pw_all hk
    rw [hd, scanR] at hsc
    simp only [go_sem, reduceCtorEq, Nat.reduceAdd, Nat.reduceMul, Nat.reduceLeDiff, Nat.reduceLT, Int.reduceLE, Int.reduceLT, Int.reduceEq, Nat.reduceBEq, Nat.reduceEqDiff, v.1, v.2.1, v.2.2.1, v.2.2.2, c1]
    refine awp_draw [] Try.mixed rfl ?_
    by_cases e1 : p.part = part
    · have b1 : (p.part == part) = true := by simp [e1]
      by_cases e2 : last < p.n
      · cases b with
        | none =>
          rw [if_pos ⟨e1, e2, fun q hq => by cases hq⟩] at hsc
          simp only [go_sem, reduceCtorEq, Nat.reduceAdd, Nat.reduceMul, Nat.reduceLeDiff, Nat.reduceLT, Int.reduceLE, Int.reduceLT, Int.reduceEq, Nat.reduceBEq, Nat.reduceEqDiff, v.1, v.2.1, v.2.2.1, v.2.2.2, c0, c1, d.1, d.2.1, d.2.2, b1, e2, hw, bN]
          refine ⟨q - 1, _, by omega, ?_, k + 1, some k, by omega, fun j hj => (by cases hj; exact hlt), (by rw [hsc, hpd]; rfl), rfl⟩
          repeat (first | exact leEnv_nil | refine leEnv_any _ ?_ | refine leEnv_same _ ?_ | refine leEnv_norm _ ?_)
        | some j =>
          have hj := hb j rfl
          have hj0 : (0 : Int) ≤ (j : Int) := by omega
          have hj1 : (j : Int) < (l.length : Int) := by omega
          have hj2 : ((j : Int) < 0) = False := eq_false (by omega)
          have hjk : l[j]? = some (l.getD j default) := by simp [List.getD_eq_getElem?_getD, hj]
          obtain ⟨r, hrd⟩ : ∃ r, r = l.getD j default := ⟨_, rfl⟩
          rw [← hrd] at hjk
          have d2 := pw_all hjk
          rw [Option.map_some, ← hrd] at hsc
          by_cases e3 : p.n < r.n
          · rw [if_pos ⟨e1, e2, fun q hq => by cases hq; exact e3⟩] at hsc
            simp only [go_sem, reduceCtorEq, Nat.reduceAdd, Nat.reduceMul, Nat.reduceLeDiff, Nat.reduceLT, Int.reduceLE, Int.reduceLT, Int.reduceEq, Nat.reduceBEq, Nat.reduceEqDiff, v.1, v.2.1, v.2.2.1, v.2.2.2, c0, c1, d.1, d.2.1, d.2.2, b1, e2, e3, hw, bS, hj0, hj1, hj2, Int.toNat_natCast, d2.1, d2.2.1, d2.2.2]
            refine ⟨q - 1, _, by omega, ?_, k + 1, some k, by omega, fun j hj => (by cases hj; exact hlt), (by rw [hsc, hpd]; rfl), rfl⟩
            repeat (first | exact leEnv_nil | refine leEnv_any _ ?_ | refine leEnv_same _ ?_ | refine leEnv_norm _ ?_)
          · rw [if_neg (fun c => e3 (c.2.2 r rfl))] at hsc
            simp only [go_sem, reduceCtorEq, Nat.reduceAdd, Nat.reduceMul, Nat.reduceLeDiff, Nat.reduceLT, Int.reduceLE, Int.reduceLT, Int.reduceEq, Nat.reduceBEq, Nat.reduceEqDiff, v.1, v.2.1, v.2.2.1, v.2.2.2, c0, c1, d.1, d.2.1, d.2.2, b1, e2, e3, hw, bS, hj0, hj1, hj2, Int.toNat_natCast, d2.1, d2.2.1, d2.2.2]
            refine ⟨q - 1, _, by omega, ?_, k + 1, some j, by omega, hb, (by rw [hsc, hrd]; rfl), rfl⟩
            repeat (first | exact leEnv_nil | refine leEnv_any _ ?_ | refine leEnv_same _ ?_ | refine leEnv_norm _ ?_)
      · rw [if_neg (fun c => e2 c.2.1)] at hsc
        simp only [go_sem, reduceCtorEq, Nat.reduceAdd, Nat.reduceMul, Nat.reduceLeDiff, Nat.reduceLT, Int.reduceLE, Int.reduceLT, Int.reduceEq, Nat.reduceBEq, Nat.reduceEqDiff, v.1, v.2.1, v.2.2.1, v.2.2.2, c0, c1, d.1, d.2.1, d.2.2, b1, e2, hw]
        refine ⟨q - 1, _, by omega, ?_, k + 1, b, by omega, hb, hsc, rfl⟩
        repeat (first | exact leEnv_nil | refine leEnv_any _ ?_ | refine leEnv_same _ ?_ | refine leEnv_norm _ ?_)
    · have b1 : (p.part == part) = false := by simp [e1]
      rw [if_neg (fun c => e1 c.1)] at hsc
      simp only [go_sem, reduceCtorEq, Nat.reduceAdd, Nat.reduceMul, Nat.reduceLeDiff, Nat.reduceLT, Int.reduceLE, Int.reduceLT, Int.reduceEq, Nat.reduceBEq, Nat.reduceEqDiff, v.1, v.2.1, v.2.2.1, v.2.2.2, c0, c1, d.1, d.2.1, d.2.2, b1, hw]
      refine ⟨q - 1, _, by omega, ?_, k + 1, b, by omega, hb, hsc, rfl⟩
      repeat (first | exact leEnv_nil | refine leEnv_any _ ?_ | refine leEnv_same _ ?_ | refine leEnv_norm _ ?_)
  · obtain rfl : k = l.length := by omega
    rw [List.drop_length] at hsc
    have hsc : scanR part last l none = b.map fun j => l.getD j default := hsc
    cases b with
    | none =>
      have hfin : sortR part l = X := by rw [hs, sortG, hsc]; simp
      rw [hfin] at h
      simp only [go_sem, reduceCtorEq, Nat.reduceAdd, Nat.reduceMul, Nat.reduceLeDiff, Nat.reduceLT, Int.reduceLE, Int.reduceLT, Int.reduceEq, Nat.reduceBEq, Nat.reduceEqDiff, v.1, v.2.1, v.2.2.1, v.2.2.2, Int.lt_irrefl, bN]
      exact ⟨⟨[.tok ver'], rfl⟩, ids_pws _ _, h⟩
    | some j =>
      have hj := hb j rfl
      have hj0 : (0 : Int) ≤ (j : Int) := by omega
      have hj1 : (j : Int) < (l.length : Int) := by omega
      have hj2 : ((j : Int) < 0) = False := eq_false (by omega)
      have hjk : l[j]? = some (l.getD j default) := by simp [List.getD_eq_getElem?_getD, hj]
      obtain ⟨r, hrd⟩ : ∃ r, r = l.getD j default := ⟨_, rfl⟩
      rw [← hrd] at hjk
      have d2 := pw_all hjk
      have hsc : scanR part last l none = some r := by rw [hsc, hrd]; rfl
      have hr := (scan_some hsc).resolve_left (by intro e; cases e)
      have hll := left_lt hr.1 hr.2.1 hr.2.2
      obtain ⟨f', rfl⟩ : ∃ f', m = f' + 1 := ⟨m - 1, by omega⟩
      have happ := app_puts (n := X.length + 1) (by omega)
      have w := arr_facts (get_app hp [.tok (ver' + 1)])
      simp only [go_sem, reduceCtorEq, Nat.reduceAdd, Nat.reduceMul, Nat.reduceLeDiff, Nat.reduceLT, Int.reduceLE, Int.reduceLT, Int.reduceEq, Nat.reduceBEq, Nat.reduceEqDiff, v.1, v.2.1, v.2.2.1, v.2.2.2, w.1, w.2.1, w.2.2.1, w.2.2.2, Int.lt_irrefl, bS, hj0, hj1, hj2, Int.toNat_natCast, d2.1, d2.2.1, d2.2.2]
      refine ⟨happ, f', _, by omega, ?_, X ++ [r], r.n, f', ver' + 1, by omega, rfl, by simp; omega, by rw [hs, sortG, hsc]; simp, rfl, rfl⟩
      rw [List.map_append]
      repeat (first | exact leEnv_nil | refine leEnv_any _ ?_ | refine leEnv_same _ ?_ | refine leEnv_norm _ ?_)

end Go.Proofs
