/- The engine: of, open, is, look. -/
import Derived.Test.YteclbnjpijakbaaData
set_option linter.unusedSimpArgs false
set_option maxRecDepth 8000
namespace Go.Proofs
open Go Go.AL

/-- A thread's transaction. -/
def EG.of (E : EG) (t : Int) : Option TX := if 0 ≤ t ∧ t < 8 then (E.txs[t.toNat]?).join else none

theorem of_some {E : EG} {t : Int} {x : TX} (h : E.of t = some x) : (0 ≤ t ∧ t < 8) ∧ E.txs[t.toNat]? = some (some x) := by
  unfold EG.of at h
  split at h
  · rename_i c
    refine ⟨c, ?_⟩
    cases hx : E.txs[t.toNat]? with
    | none => rw [hx] at h; cases h
    | some o => rw [hx] at h; cases h; rfl
  · cases h

theorem of_id {st : St} {E : EG} (hE : EngAt st E) {t : Int} {x : TX} (h : E.of t = some x) : x.id < st.length := lt_of_get (hE.tx _ x (of_some h).2).cells

theorem of_c {st : St} {E : EG} (hE : EngAt st E) (t : Int) (K : SV → St → Prop) (h : K (txSV (E.of t)) st) : ACalls Try.prog 60 [.ptr E.id 0, i64 t] K st := by
  refine acalls_go_pure [] Try.func60 rfl Try.results60 Try.ntmps60 ?_
  have f := cells_facts hE.cells
  have hfin := fin_ptr (fun x hx => of_id hE hx) h
  by_cases c : 0 ≤ t ∧ t < 8
  · have c1 : (t < 0) = False := eq_false (by omega)
    have c2 : (8 ≤ t) = False := eq_false (by omega)
    obtain ⟨o, ho, hd⟩ := hE.txs_get (t := t.toNat) (by omega)
    have hof : E.of t = o := by rw [EG.of, if_pos c, ho]; rfl
    rw [hof] at hfin
    simp only [go_sem, reduceCtorEq, Nat.reduceAdd, Nat.reduceMul, Nat.reduceLeDiff, Nat.reduceLT, Int.reduceLE, Int.reduceLT, Int.reduceEq, Nat.reduceBEq, Nat.reduceEqDiff, f.1, f.2.1, f.2.2, c1, c2, c.1, c.2, hd, Nat.mul_one]
    exact ⟨c.2, hfin⟩
  · have hof : E.of t = none := by rw [EG.of, if_neg c]
    rw [hof] at h
    by_cases c1 : t < 0
    · simp only [go_sem, reduceCtorEq, Nat.reduceAdd, Nat.reduceMul, Nat.reduceLeDiff, Nat.reduceLT, Int.reduceLE, Int.reduceLT, Int.reduceEq, Nat.reduceBEq, Nat.reduceEqDiff, f.1, f.2.1, f.2.2, c1]
      exact fin_sc h
    · have c2 : 8 ≤ t := by omega
      simp only [go_sem, reduceCtorEq, Nat.reduceAdd, Nat.reduceMul, Nat.reduceLeDiff, Nat.reduceLT, Int.reduceLE, Int.reduceLT, Int.reduceEq, Nat.reduceBEq, Nat.reduceEqDiff, f.1, f.2.1, f.2.2, c1, c2]
      exact fin_sc h

/-- Its transaction, if that does not commit. -/
def EG.opn (E : EG) (t : Int) : Option TX := match E.of t with | some x => if x.commits then none else some x | none => none

theorem opn_some {E : EG} {t : Int} {x : TX} (h : E.opn t = some x) : E.of t = some x ∧ x.commits = false := by
  unfold EG.opn at h
  split at h
  · rename_i y hy
    cases hc : y.commits with
    | true => rw [hc] at h; cases h
    | false => rw [hc] at h; cases h; exact ⟨hy, hc⟩
  · cases h

theorem open_c {st : St} {E : EG} (hE : EngAt st E) (t : Int) (K : SV → St → Prop) (h : K (txSV (E.opn t)) st) : ACalls Try.prog 46 [.ptr E.id 0, i64 t] K st := by
  refine acalls_go_pure [] Try.func46 rfl Try.results46 Try.ntmps46 ?_
  have hof := of_c hE t
  unfold EG.opn at h
  cases hx : E.of t with
  | none =>
    rw [hx] at hof h
    simp only [go_sem, reduceCtorEq, Nat.reduceAdd, Nat.reduceMul, Nat.reduceLeDiff, Nat.reduceLT, Int.reduceLE, Int.reduceLT, Int.reduceEq, Nat.reduceBEq, Nat.reduceEqDiff]
    refine hof _ ?_
    simp only [txSV, go_sem, reduceCtorEq, Nat.reduceAdd, Nat.reduceMul, Nat.reduceLeDiff, Nat.reduceLT, Int.reduceLE, Int.reduceLT, Int.reduceEq, Nat.reduceBEq, Nat.reduceEqDiff]
    exact fin_sc h
  | some x =>
    rw [hx] at hof h
    have g := cells_facts (hE.tx _ x (of_some hx).2).cells
    have hlt := of_id hE hx
    cases hc : x.commits with
    | true =>
      simp only [hc, if_true] at h
      simp only [go_sem, reduceCtorEq, Nat.reduceAdd, Nat.reduceMul, Nat.reduceLeDiff, Nat.reduceLT, Int.reduceLE, Int.reduceLT, Int.reduceEq, Nat.reduceBEq, Nat.reduceEqDiff]
      refine hof _ ?_
      simp only [txSV, go_sem, reduceCtorEq, Nat.reduceAdd, Nat.reduceMul, Nat.reduceLeDiff, Nat.reduceLT, Int.reduceLE, Int.reduceLT, Int.reduceEq, Nat.reduceBEq, Nat.reduceEqDiff, g.1, g.2.1, g.2.2, TX.cells, hc]
      exact fin_sc h
    | false =>
      simp only [hc, Bool.false_eq_true, if_false] at h
      simp only [go_sem, reduceCtorEq, Nat.reduceAdd, Nat.reduceMul, Nat.reduceLeDiff, Nat.reduceLT, Int.reduceLE, Int.reduceLT, Int.reduceEq, Nat.reduceBEq, Nat.reduceEqDiff]
      refine hof _ ?_
      simp only [txSV, go_sem, reduceCtorEq, Nat.reduceAdd, Nat.reduceMul, Nat.reduceLeDiff, Nat.reduceLT, Int.reduceLE, Int.reduceLT, Int.reduceEq, Nat.reduceBEq, Nat.reduceEqDiff, g.1, g.2.1, g.2.2, TX.cells, hc]
      exact ⟨⟨[], by simp⟩, .ptr _ _ hlt, h⟩

/-- Is there a var? -/
def EG.is (E : EG) (n : Int) : Bool := decide (0 ≤ n) && decide (n < (E.vars.length : Int))

theorem is_c {st : St} {E : EG} (hE : EngAt st E) (n : Int) (K : SV → St → Prop) (h : K (.sc (.bool (E.is n))) st) : ACalls Try.prog 47 [.ptr E.id 0, i64 n] K st := by
  refine acalls_go_pure [] Try.func47 rfl Try.results47 Try.ntmps47 ?_
  have f := cells_facts hE.cells
  have v := arr_facts hE.vars
  unfold EG.is at h
  have hd : List.drop 1 E.cells = .arr E.vid E.vver E.vars.length :: E.txs.map txSV := rfl
  by_cases c : 0 ≤ n
  · simp only [c, decide_true, Bool.true_and] at h
    simp only [go_sem, reduceCtorEq, Nat.reduceAdd, Nat.reduceMul, Nat.reduceLeDiff, Nat.reduceLT, Int.reduceLE, Int.reduceLT, Int.reduceEq, Nat.reduceBEq, Nat.reduceEqDiff, f.1, f.2.1, f.2.2, v.1, v.2.1, v.2.2.1, v.2.2.2, c, hd]
    exact fin_sc h
  · simp only [c, decide_false, Bool.false_and] at h
    simp only [go_sem, reduceCtorEq, Nat.reduceAdd, Nat.reduceMul, Nat.reduceLeDiff, Nat.reduceLT, Int.reduceLE, Int.reduceLT, Int.reduceEq, Nat.reduceBEq, Nat.reduceEqDiff, f.1, f.2.1, f.2.2, c]
    exact fin_sc h

/-- May a var be read? -/
def lookF (t start : Int) (v : TV) : Int := if v.lock ≠ -1 ∧ v.lock ≠ t then 32 else if v.ver > start then 33 else 0

theorem look_c {st : St} {E : EG} (hE : EngAt st E) (t n : Int) (x : TX) (hx : st[x.id]? = some (.cells x.cells)) (hn : 0 ≤ n ∧ n < (E.vars.length : Int)) (K : SV → St → Prop) (h : K (i64 (lookF t x.start (E.vars.getD n.toNat default))) st) : ACalls Try.prog 51 [.ptr E.id 0, i64 t, .ptr x.id 0, i64 n] K st := by
  refine acalls_go_pure [] Try.func51 rfl Try.results51 Try.ntmps51 ?_
  have f := cells_facts hE.cells
  have v := arr_facts hE.vars
  have g := cells_facts hx
  have hd : List.drop 1 E.cells = .arr E.vid E.vver E.vars.length :: E.txs.map txSV := rfl
  have hv := vars_drop (l := E.vars) (n := n.toNat) (by omega)
  obtain ⟨y, hy⟩ : ∃ y, E.vars.getD n.toNat default = y := ⟨_, rfl⟩
  rw [hy] at hv h
  unfold lookF at h
  simp only [go_sem, reduceCtorEq, Nat.reduceAdd, Nat.reduceMul, Nat.reduceLeDiff, Nat.reduceLT, Int.reduceLE, Int.reduceLT, Int.reduceEq, Nat.reduceBEq, Nat.reduceEqDiff, f.1, f.2.1, f.2.2, v.1, v.2.1, v.2.2.1, v.2.2.2, hd, hn.1, hn.2, hv]
  by_cases c : y.lock ≠ -1 ∧ y.lock ≠ t
  · have cb : (y.lock != -1 && y.lock != t) = true := by simp [c.1, c.2]
    rw [if_pos c] at h
    exact ⟨fun _ => fin_scA h, fun e => by rw [cb] at e; cases e⟩
  · have cb : (y.lock != -1 && y.lock != t) = false := by
      rw [Bool.eq_false_iff]; simp only [ne_eq, Bool.and_eq_true, bne_iff_ne]; exact c
    rw [if_neg c] at h
    refine ⟨fun e => (by rw [cb] at e; cases e), fun _ => ?_⟩
    refine awp_draw [] Try.mixed rfl ?_
    simp only [go_sem, reduceCtorEq, Nat.reduceAdd, Nat.reduceMul, Nat.reduceLeDiff, Nat.reduceLT, Int.reduceLE, Int.reduceLT, Int.reduceEq, Nat.reduceBEq, Nat.reduceEqDiff, g.1, g.2.1, g.2.2, TX.cells]
    by_cases c2 : y.ver > x.start
    · rw [if_pos c2] at h
      have c3 : decide (x.start < y.ver) = true := by simpa using c2
      exact ⟨fun _ => fin_scA h, fun e => by rw [c3] at e; cases e⟩
    · rw [if_neg c2] at h
      have c3 : decide (x.start < y.ver) = false := by simpa using c2
      exact ⟨fun e => (by rw [c3] at e; cases e), fun _ => fin_scA h⟩

/-- Is what was read so still? -/
def validL (t start : Int) (vars : List TV) : List Int → Int
  | [] => 0
  | n :: r => if lookF t start (vars.getD n.toNat default) = 0 then validL t start vars r else lookF t start (vars.getD n.toNat default)

theorem wrapS (k : Nat) (h : k ≤ 1000000) : IntKind.i64.wrap ((k : Int) + 1) = ((k + 1 : Nat) : Int) := by
  rw [IntWalk.i64_in _ (by omega)]; rfl

theorem getD_i64 {l : List Int} {k : Nat} (h : k < l.length) : (l.map i64).getD k .any = i64 (l.getD k 0) := by simp [List.getD_eq_getElem?_getD, h]
theorem drop_i64 {l : List Int} {k : Nat} (h : k < l.length) : l.drop k = l.getD k 0 :: l.drop (k + 1) := by
  rw [List.drop_eq_getElem_cons h]; simp [List.getD_eq_getElem?_getD, h]

theorem valid_c {st : St} {E : EG} (hE : EngAt st E) (t : Int) (x : TX) (hx : TxAt st x) (hr : ∀ n ∈ x.reads, 0 ≤ n ∧ n < (E.vars.length : Int)) (hl : x.reads.length ≤ 100000) (K : SV → St → Prop)
    (h : K (i64 (validL t x.start E.vars x.reads)) st) : ACalls Try.prog 63 [.ptr E.id 0, i64 t, .ptr x.id 0] K st := by
  refine acalls_go_pure [] Try.func63 rfl Try.results63 Try.ntmps63 ?_
  have g := cells_facts hx.cells
  simp only [go_sem, reduceCtorEq, Nat.reduceAdd, Nat.reduceMul, Nat.reduceLeDiff, Nat.reduceLT, Int.reduceLE, Int.reduceLT, Int.reduceEq, Nat.reduceBEq, Nat.reduceEqDiff, g.1, g.2.1, g.2.2, TX.cells]
  refine awp_rounds [] (fun m e s => ∃ (k : Nat), k + m = x.reads.length ∧ validL t x.start E.vars x.reads = validL t x.start E.vars (x.reads.drop k) ∧ e = [.ptr E.id 0, i64 t, .ptr x.id 0, .any, .any, .any, .any, .any, .any, .any, .any, .any, .any, .slice .imm 1 (x.reads.map i64), i64 x.reads.length, i64 k, .any, .any, .any, .any, .any, .any, .any, .any, .any, .any, .any, .any] ∧ s = st) (n := x.reads.length) ?_ ⟨0, by omega, rfl, rfl, rfl⟩ ?_
  · repeat (first | exact leEnv_nil | refine leEnv_any _ ?_ | refine leEnv_same _ ?_ | exact ⟨.inr (.inr rfl), by assumption⟩ | refine leEnv_norm (.slice (.own x.rid x.rver) 1 (x.reads.map i64)) ?_)
  rintro m e s ⟨k, hkm, hv, rfl, rfl⟩
  by_cases hlt : k < x.reads.length
  · have c1 : (k : Int) < (x.reads.length : Int) := by omega
    have hw := wrapS k (by omega)
    have hmem : x.reads.getD k 0 ∈ x.reads := by simp [List.getD_eq_getElem?_getD, hlt]
    have hlk := look_c hE t (x.reads.getD k 0) x hx.cells (hr _ hmem)
    rw [drop_i64 hlt, validL] at hv
    obtain ⟨f, hf⟩ : ∃ f, lookF t x.start (E.vars.getD (x.reads.getD k 0).toNat default) = f := ⟨_, rfl⟩
    rw [hf] at hlk hv
    by_cases c : f = 0
    · have cb : (f != 0) = false := by simp [c]
      rw [if_pos c] at hv
      simp only [go_sem, reduceCtorEq, Nat.reduceAdd, Nat.reduceMul, Nat.reduceLeDiff, Nat.reduceLT, Int.reduceLE, Int.reduceLT, Int.reduceEq, Nat.reduceBEq, Nat.reduceEqDiff, c1, getD_i64 hlt]
      refine hlk _ ?_
      simp only [go_sem, reduceCtorEq, Nat.reduceAdd, Nat.reduceMul, Nat.reduceLeDiff, Nat.reduceLT, Int.reduceLE, Int.reduceLT, Int.reduceEq, Nat.reduceBEq, Nat.reduceEqDiff, cb, hw]
      refine ⟨m - 1, _, by omega, ?_, k + 1, by omega, hv, rfl⟩
      repeat (first | exact leEnv_nil | refine leEnv_any _ ?_ | refine leEnv_same _ ?_ | refine leEnv_norm _ ?_)
    · have cb : (f != 0) = true := by simp [c]
      rw [if_neg c] at hv
      simp only [go_sem, reduceCtorEq, Nat.reduceAdd, Nat.reduceMul, Nat.reduceLeDiff, Nat.reduceLT, Int.reduceLE, Int.reduceLT, Int.reduceEq, Nat.reduceBEq, Nat.reduceEqDiff, c1, getD_i64 hlt]
      refine hlk _ ?_
      simp only [go_sem, reduceCtorEq, Nat.reduceAdd, Nat.reduceMul, Nat.reduceLeDiff, Nat.reduceLT, Int.reduceLE, Int.reduceLT, Int.reduceEq, Nat.reduceBEq, Nat.reduceEqDiff, cb]
      rw [← hv]
      exact fin_sc h
  · obtain rfl : k = x.reads.length := by omega
    simp only [go_sem, reduceCtorEq, Nat.reduceAdd, Nat.reduceMul, Nat.reduceLeDiff, Nat.reduceLT, Int.reduceLE, Int.reduceLT, Int.reduceEq, Nat.reduceBEq, Nat.reduceEqDiff, Int.lt_irrefl]
    rw [hv, List.drop_length] at h
    exact fin_sc h

end Go.Proofs
