/- The engine: what is asked of it without turning it. -/
import Derived.Test.YteclbnjpijakbaaW1
set_option linter.unusedSimpArgs false
set_option maxRecDepth 8000
namespace Go.Proofs
open Go Go.AL

/-- What is kept of an engine: what was read are vars. -/
structure Fine (E : EG) : Prop where
  reads : ∀ (t : Nat) (x : TX), E.txs[t]? = some (some x) → (∀ n ∈ x.reads, 0 ≤ n ∧ n < (E.vars.length : Int)) ∧ x.reads.length ≤ 100000 ∧ x.mids.length ≤ 100000
  one : ∀ (t : Nat) (x : TX), E.txs[t]? = some (some x) → 1 ≤ x.mids.length
  dom : ∀ (t : Nat) (x : TX), E.txs[t]? = some (some x) → ∀ m ∈ x.maps, ∀ k, (pmGet m k).isSome = true → 0 ≤ k ∧ k < (E.vars.length : Int)
  clk : 0 ≤ E.clock ∧ E.clock ≤ 1000000000
  left : ∀ (t : Nat) (x : TX), E.txs[t]? = some (some x) → x.pointed = true → x.left ≠ [] ∧ ∀ n ∈ x.left, 0 ≤ n ∧ n < (E.vars.length : Int)

theorem clock_c {st : St} {E : EG} (hE : EngAt st E) (K : SV → St → Prop) (h : K (i64 E.clock) st) : ACalls Try.prog 24 [.ptr E.id 0] K st := by
  refine acalls_go_pure [] Try.func24 rfl Try.results24 Try.ntmps24 ?_
  have f := cells_facts hE.cells
  simp only [go_sem, reduceCtorEq, Nat.reduceAdd, Nat.reduceMul, Nat.reduceLeDiff, Nat.reduceLT, Int.reduceLE, Int.reduceLT, Int.reduceEq, Nat.reduceBEq, Nat.reduceEqDiff, f.1, f.2.1, f.2.2, EG.cells]
  exact fin_sc h

theorem active_c {st : St} {E : EG} (hE : EngAt st E) (t : Int) (K : SV → St → Prop) (h : K (.sc (.bool (E.of t).isSome)) st) : ACalls Try.prog 20 [.ptr E.id 0, i64 t] K st := by
  refine acalls_go_pure [] Try.func20 rfl Try.results20 Try.ntmps20 ?_
  have hof := of_c hE t
  cases hx : E.of t with
  | none =>
    rw [hx] at hof h
    simp only [go_sem, reduceCtorEq, Nat.reduceAdd, Nat.reduceMul, Nat.reduceLeDiff, Nat.reduceLT, Int.reduceLE, Int.reduceLT, Int.reduceEq, Nat.reduceBEq, Nat.reduceEqDiff]
    refine hof _ ?_
    simp only [txSV, go_sem, reduceCtorEq, Nat.reduceAdd, Nat.reduceMul, Nat.reduceLeDiff, Nat.reduceLT, Int.reduceLE, Int.reduceLT, Int.reduceEq, Nat.reduceBEq, Nat.reduceEqDiff]
    exact fin_sc h
  | some x =>
    rw [hx] at hof h
    simp only [go_sem, reduceCtorEq, Nat.reduceAdd, Nat.reduceMul, Nat.reduceLeDiff, Nat.reduceLT, Int.reduceLE, Int.reduceLT, Int.reduceEq, Nat.reduceBEq, Nat.reduceEqDiff]
    refine hof _ ?_
    simp only [txSV, go_sem, reduceCtorEq, Nat.reduceAdd, Nat.reduceMul, Nat.reduceLeDiff, Nat.reduceLT, Int.reduceLE, Int.reduceLT, Int.reduceEq, Nat.reduceBEq, Nat.reduceEqDiff]
    exact fin_sc h

theorem start_c {st : St} {E : EG} (hE : EngAt st E) (t : Int) (K : SV → St → Prop) (h : K (i64 (match E.of t with | some x => x.start | none => 0)) st) : ACalls Try.prog 28 [.ptr E.id 0, i64 t] K st := by
  refine acalls_go_pure [] Try.func28 rfl Try.results28 Try.ntmps28 ?_
  have hof := of_c hE t
  cases hx : E.of t with
  | none =>
    rw [hx] at hof h
    simp only [go_sem, reduceCtorEq, Nat.reduceAdd, Nat.reduceMul, Nat.reduceLeDiff, Nat.reduceLT, Int.reduceLE, Int.reduceLT, Int.reduceEq, Nat.reduceBEq, Nat.reduceEqDiff]
    refine hof _ ?_
    simp only [txSV, go_sem, reduceCtorEq, Nat.reduceAdd, Nat.reduceMul, Nat.reduceLeDiff, Nat.reduceLT, Int.reduceLE, Int.reduceLT, Int.reduceEq, Nat.reduceBEq, Nat.reduceEqDiff]
    exact fin_sc h
  | some x =>
    rw [hx] at hof h
    have g := cells_facts (hE.tx _ x (of_some hx).2).cells
    simp only [go_sem, reduceCtorEq, Nat.reduceAdd, Nat.reduceMul, Nat.reduceLeDiff, Nat.reduceLT, Int.reduceLE, Int.reduceLT, Int.reduceEq, Nat.reduceBEq, Nat.reduceEqDiff]
    refine hof _ ?_
    simp only [txSV, go_sem, reduceCtorEq, Nat.reduceAdd, Nat.reduceMul, Nat.reduceLeDiff, Nat.reduceLT, Int.reduceLE, Int.reduceLT, Int.reduceEq, Nat.reduceBEq, Nat.reduceEqDiff, g.1, g.2.1, g.2.2, TX.cells]
    exact fin_sc h

theorem Valid_c {st : St} {E : EG} (hE : EngAt st E) (hF : Fine E) (t : Int) (K : SV → St → Prop) (h : K (i64 (match E.opn t with | some x => validL t x.start E.vars x.reads | none => 1)) st) : ACalls Try.prog 58 [.ptr E.id 0, i64 t] K st := by
  refine acalls_go_pure [] Try.func58 rfl Try.results58 Try.ntmps58 ?_
  have hof := open_c hE t
  cases hx : E.opn t with
  | none =>
    rw [hx] at hof h
    simp only [go_sem, reduceCtorEq, Nat.reduceAdd, Nat.reduceMul, Nat.reduceLeDiff, Nat.reduceLT, Int.reduceLE, Int.reduceLT, Int.reduceEq, Nat.reduceBEq, Nat.reduceEqDiff]
    refine hof _ ?_
    simp only [txSV, go_sem, reduceCtorEq, Nat.reduceAdd, Nat.reduceMul, Nat.reduceLeDiff, Nat.reduceLT, Int.reduceLE, Int.reduceLT, Int.reduceEq, Nat.reduceBEq, Nat.reduceEqDiff]
    exact fin_sc h
  | some x =>
    rw [hx] at hof h
    have hy := of_some (opn_some hx).1
    have hr := hF.reads _ x hy.2
    have hvc := valid_c hE t x (hE.tx _ x hy.2) hr.1 hr.2.1
    simp only [go_sem, reduceCtorEq, Nat.reduceAdd, Nat.reduceMul, Nat.reduceLeDiff, Nat.reduceLT, Int.reduceLE, Int.reduceLT, Int.reduceEq, Nat.reduceBEq, Nat.reduceEqDiff]
    refine hof _ ?_
    simp only [txSV, go_sem, reduceCtorEq, Nat.reduceAdd, Nat.reduceMul, Nat.reduceLeDiff, Nat.reduceLT, Int.reduceLE, Int.reduceLT, Int.reduceEq, Nat.reduceBEq, Nat.reduceEqDiff]
    refine hvc _ ?_
    simp only [go_sem, reduceCtorEq, Nat.reduceAdd, Nat.reduceMul, Nat.reduceLeDiff, Nat.reduceLT, Int.reduceLE, Int.reduceLT, Int.reduceEq, Nat.reduceBEq, Nat.reduceEqDiff]
    exact fin_sc h

theorem value_c {st : St} {E : EG} (hE : EngAt st E) (n : Int) (K : SV → St → Prop) (h : K (.tuple [i64 (if E.is n = true then (E.vars.getD n.toNat default).val else 0), i64 (if E.is n = true then 0 else 1)]) st) : ACalls Try.prog 23 [.ptr E.id 0, i64 n] K st := by
  refine acalls_go_pure [] Try.func23 rfl Try.results23 Try.ntmps23 ?_
  have f := cells_facts hE.cells
  have v := arr_facts hE.vars
  have his := is_c hE n
  have hd : List.drop 1 E.cells = .arr E.vid E.vver E.vars.length :: E.txs.map txSV := rfl
  cases hb : E.is n with
  | false =>
    rw [hb] at his h
    simp only [Bool.false_eq_true, if_false] at h
    simp only [go_sem, reduceCtorEq, Nat.reduceAdd, Nat.reduceMul, Nat.reduceLeDiff, Nat.reduceLT, Int.reduceLE, Int.reduceLT, Int.reduceEq, Nat.reduceBEq, Nat.reduceEqDiff]
    refine his _ ?_
    simp only [go_sem, reduceCtorEq, Nat.reduceAdd, Nat.reduceMul, Nat.reduceLeDiff, Nat.reduceLT, Int.reduceLE, Int.reduceLT, Int.reduceEq, Nat.reduceBEq, Nat.reduceEqDiff]
    exact ⟨⟨[], by simp⟩, by simp only [norm, List.map_cons, List.map_nil, norm1, go_sem], h⟩
  | true =>
    rw [hb] at his h
    simp only [if_true] at h
    have hb' := hb
    unfold EG.is at hb'
    simp only [Bool.and_eq_true, decide_eq_true_eq] at hb'
    have hv := vars_drop (l := E.vars) (n := n.toNat) (by omega)
    simp only [go_sem, reduceCtorEq, Nat.reduceAdd, Nat.reduceMul, Nat.reduceLeDiff, Nat.reduceLT, Int.reduceLE, Int.reduceLT, Int.reduceEq, Nat.reduceBEq, Nat.reduceEqDiff]
    refine his _ ?_
    simp only [go_sem, reduceCtorEq, Nat.reduceAdd, Nat.reduceMul, Nat.reduceLeDiff, Nat.reduceLT, Int.reduceLE, Int.reduceLT, Int.reduceEq, Nat.reduceBEq, Nat.reduceEqDiff, f.1, f.2.1, f.2.2, v.1, v.2.1, v.2.2.1, v.2.2.2, hd, hb'.1, hb'.2, hv]
    exact ⟨⟨[], by simp⟩, by simp only [norm, List.map_cons, List.map_nil, norm1, go_sem], h⟩

theorem newer_c {st : St} {E : EG} (hE : EngAt st E) (n than : Int) (K : SV → St → Prop) (h : K (.sc (.bool (E.is n && decide (than < (E.vars.getD n.toNat default).ver)))) st) : ACalls Try.prog 65 [.ptr E.id 0, i64 n, i64 than] K st := by
  refine acalls_go_pure [] Try.func65 rfl Try.results65 Try.ntmps65 ?_
  have f := cells_facts hE.cells
  have v := arr_facts hE.vars
  have his := is_c hE n
  have hd : List.drop 1 E.cells = .arr E.vid E.vver E.vars.length :: E.txs.map txSV := rfl
  cases hb : E.is n with
  | false =>
    rw [hb] at his h
    simp only [go_sem, reduceCtorEq, Nat.reduceAdd, Nat.reduceMul, Nat.reduceLeDiff, Nat.reduceLT, Int.reduceLE, Int.reduceLT, Int.reduceEq, Nat.reduceBEq, Nat.reduceEqDiff]
    refine his _ ?_
    simp only [go_sem, reduceCtorEq, Nat.reduceAdd, Nat.reduceMul, Nat.reduceLeDiff, Nat.reduceLT, Int.reduceLE, Int.reduceLT, Int.reduceEq, Nat.reduceBEq, Nat.reduceEqDiff]
    exact fin_sc h
  | true =>
    rw [hb] at his h
    have hb' := hb
    unfold EG.is at hb'
    simp only [Bool.and_eq_true, decide_eq_true_eq] at hb'
    have hv := vars_drop1 (l := E.vars) (n := n.toNat) (by omega)
    simp only [go_sem, reduceCtorEq, Nat.reduceAdd, Nat.reduceMul, Nat.reduceLeDiff, Nat.reduceLT, Int.reduceLE, Int.reduceLT, Int.reduceEq, Nat.reduceBEq, Nat.reduceEqDiff]
    refine his _ ?_
    simp only [go_sem, reduceCtorEq, Nat.reduceAdd, Nat.reduceMul, Nat.reduceLeDiff, Nat.reduceLT, Int.reduceLE, Int.reduceLT, Int.reduceEq, Nat.reduceBEq, Nat.reduceEqDiff, f.1, f.2.1, f.2.2, v.1, v.2.1, v.2.2.1, v.2.2.2, hd, hb'.1, hb'.2, hv]
    exact fin_sc h

end Go.Proofs
