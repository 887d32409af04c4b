/- The engine: of, open, is, look. -/
import Derived.Test.YteclbnjpijakbaaData
import Derived.Test.YteclbnjpijakbaaA8
set_option linter.unusedSimpArgs false
set_option maxRecDepth 8000
namespace Go.Proofs
open Go Go.AL

/-- A thread's transaction. -/
def EG.of (E : EG) (t : Int) : Option TX := if 0 ≤ t ∧ t < 8 then (E.txs[t.toNat]?).join else none

theorem of_some {E : EG} {t : Int} {x : TX} (h : E.of t = some x) : (0 ≤ t ∧ t < 8) ∧ E.txs[t.toNat]? = some (some x) := by
  unfold EG.of at h
  split at h
  · rename_i c
    refine ⟨c, ?_⟩
    cases hx : E.txs[t.toNat]? with
    | none => rw [hx] at h; cases h
    | some o => rw [hx] at h; cases h; rfl
  · cases h

theorem of_id {st : St} {E : EG} (hE : EngAt st E) {t : Int} {x : TX} (h : E.of t = some x) : x.id < st.length := lt_of_get (hE.tx _ x (of_some h).2).cells

theorem of_c {st : St} {E : EG} (hE : EngAt st E) (t : Int) (K : SV → St → Prop) (h : K (txSV (E.of t)) st) : ACalls Try.prog 60 [.ptr E.id 0, i64 t] K st := by
  refine acalls_go_pure [] Try.func60 rfl Try.results60 Try.ntmps60 ?_
  have f := cells_facts hE.cells
  have hfin := fin_ptr (fun x hx => of_id hE hx) h
  by_cases c : 0 ≤ t ∧ t < 8
  · have c1 : (t < 0) = False := eq_false (by omega)
    have c2 : (8 ≤ t) = False := eq_false (by omega)
    obtain ⟨o, ho, hd⟩ := hE.txs_get (t := t.toNat) (by omega)
    have hof : E.of t = o := by rw [EG.of, if_pos c, ho]; rfl
    rw [hof] at hfin
    simp only [go_sem, reduceCtorEq, Nat.reduceAdd, Nat.reduceMul, Nat.reduceLeDiff, Nat.reduceLT, Int.reduceLE, Int.reduceLT, Int.reduceEq, Nat.reduceBEq, Nat.reduceEqDiff, f.1, f.2.1, f.2.2, c1, c2, c.1, c.2, hd, Nat.mul_one]
    exact ⟨c.2, hfin⟩
  · have hof : E.of t = none := by rw [EG.of, if_neg c]
    rw [hof] at h
    by_cases c1 : t < 0
    · simp only [go_sem, reduceCtorEq, Nat.reduceAdd, Nat.reduceMul, Nat.reduceLeDiff, Nat.reduceLT, Int.reduceLE, Int.reduceLT, Int.reduceEq, Nat.reduceBEq, Nat.reduceEqDiff, f.1, f.2.1, f.2.2, c1]
      exact fin_sc h
    · have c2 : 8 ≤ t := by omega
      simp only [go_sem, reduceCtorEq, Nat.reduceAdd, Nat.reduceMul, Nat.reduceLeDiff, Nat.reduceLT, Int.reduceLE, Int.reduceLT, Int.reduceEq, Nat.reduceBEq, Nat.reduceEqDiff, f.1, f.2.1, f.2.2, c1, c2]
      exact fin_sc h

/-- Its transaction, if that does not commit. -/
def EG.opn (E : EG) (t : Int) : Option TX := match E.of t with | some x => if x.commits then none else some x | none => none

theorem opn_some {E : EG} {t : Int} {x : TX} (h : E.opn t = some x) : E.of t = some x ∧ x.commits = false := by
  unfold EG.opn at h
  split at h
  · rename_i y hy
    cases hc : y.commits with
    | true => rw [hc] at h; cases h
    | false => rw [hc] at h; cases h; exact ⟨hy, hc⟩
  · cases h

theorem open_c {st : St} {E : EG} (hE : EngAt st E) (t : Int) (K : SV → St → Prop) (h : K (txSV (E.opn t)) st) : ACalls Try.prog 46 [.ptr E.id 0, i64 t] K st := by
  refine acalls_go_pure [] Try.func46 rfl Try.results46 Try.ntmps46 ?_
  have hof := of_c hE t
  unfold EG.opn at h
  cases hx : E.of t with
  | none =>
    rw [hx] at hof h
    simp only [go_sem, reduceCtorEq, Nat.reduceAdd, Nat.reduceMul, Nat.reduceLeDiff, Nat.reduceLT, Int.reduceLE, Int.reduceLT, Int.reduceEq, Nat.reduceBEq, Nat.reduceEqDiff]
    refine hof _ ?_
    simp only [txSV, go_sem, reduceCtorEq, Nat.reduceAdd, Nat.reduceMul, Nat.reduceLeDiff, Nat.reduceLT, Int.reduceLE, Int.reduceLT, Int.reduceEq, Nat.reduceBEq, Nat.reduceEqDiff]
    exact fin_sc h
  | some x =>
    rw [hx] at hof h
    have g := cells_facts (hE.tx _ x (of_some hx).2).cells
    have hlt := of_id hE hx
    cases hc : x.commits with
    | true =>
      simp only [hc, if_true] at h
      simp only [go_sem, reduceCtorEq, Nat.reduceAdd, Nat.reduceMul, Nat.reduceLeDiff, Nat.reduceLT, Int.reduceLE, Int.reduceLT, Int.reduceEq, Nat.reduceBEq, Nat.reduceEqDiff]
      refine hof _ ?_
      simp only [txSV, go_sem, reduceCtorEq, Nat.reduceAdd, Nat.reduceMul, Nat.reduceLeDiff, Nat.reduceLT, Int.reduceLE, Int.reduceLT, Int.reduceEq, Nat.reduceBEq, Nat.reduceEqDiff, g.1, g.2.1, g.2.2, TX.cells, hc]
      exact fin_sc h
    | false =>
      simp only [hc, Bool.false_eq_true, if_false] at h
      simp only [go_sem, reduceCtorEq, Nat.reduceAdd, Nat.reduceMul, Nat.reduceLeDiff, Nat.reduceLT, Int.reduceLE, Int.reduceLT, Int.reduceEq, Nat.reduceBEq, Nat.reduceEqDiff]
      refine hof _ ?_
      simp only [txSV, go_sem, reduceCtorEq, Nat.reduceAdd, Nat.reduceMul, Nat.reduceLeDiff, Nat.reduceLT, Int.reduceLE, Int.reduceLT, Int.reduceEq, Nat.reduceBEq, Nat.reduceEqDiff, g.1, g.2.1, g.2.2, TX.cells, hc]
      exact ⟨⟨[], by simp⟩, .ptr _ _ hlt, h⟩

/-- Is there a var? -/
def EG.is (E : EG) (n : Int) : Bool := decide (0 ≤ n) && decide (n < (E.vars.length : Int))

theorem is_c {st : St} {E : EG} (hE : EngAt st E) (n : Int) (K : SV → St → Prop) (h : K (.sc (.bool (E.is n))) st) : ACalls Try.prog 47 [.ptr E.id 0, i64 n] K st := by
  refine acalls_go_pure [] Try.func47 rfl Try.results47 Try.ntmps47 ?_
  have f := cells_facts hE.cells
  have v := arr_facts hE.vars
  unfold EG.is at h
  have hd : List.drop 1 E.cells = .arr E.vid E.vver E.vars.length :: E.txs.map txSV := rfl
  by_cases c : 0 ≤ n
  · simp only [c, decide_true, Bool.true_and] at h
    simp only [go_sem, reduceCtorEq, Nat.reduceAdd, Nat.reduceMul, Nat.reduceLeDiff, Nat.reduceLT, Int.reduceLE, Int.reduceLT, Int.reduceEq, Nat.reduceBEq, Nat.reduceEqDiff, f.1, f.2.1, f.2.2, v.1, v.2.1, v.2.2.1, v.2.2.2, c, hd]
    exact fin_sc h
  · simp only [c, decide_false, Bool.false_and] at h
    simp only [go_sem, reduceCtorEq, Nat.reduceAdd, Nat.reduceMul, Nat.reduceLeDiff, Nat.reduceLT, Int.reduceLE, Int.reduceLT, Int.reduceEq, Nat.reduceBEq, Nat.reduceEqDiff, f.1, f.2.1, f.2.2, c]
    exact fin_sc h

/-- May a var be read? -/
def lookF (t start : Int) (v : TV) : Int := if v.lock ≠ -1 ∧ v.lock ≠ t then 32 else if v.ver > start then 33 else 0

theorem look_c {st : St} {E : EG} (hE : EngAt st E) (t n : Int) (x : TX) (hx : st[x.id]? = some (.cells x.cells)) (hn : 0 ≤ n ∧ n < (E.vars.length : Int)) (K : SV → St → Prop) (h : K (i64 (lookF t x.start (E.vars.getD n.toNat default))) st) : ACalls Try.prog 51 [.ptr E.id 0, i64 t, .ptr x.id 0, i64 n] K st := by
  refine acalls_go_pure [] Try.func51 rfl Try.results51 Try.ntmps51 ?_
  have f := cells_facts hE.cells
  have v := arr_facts hE.vars
  have g := cells_facts hx
  have hd : List.drop 1 E.cells = .arr E.vid E.vver E.vars.length :: E.txs.map txSV := rfl
  have hv := vars_drop (l := E.vars) (n := n.toNat) (by omega)
  obtain ⟨y, hy⟩ : ∃ y, E.vars.getD n.toNat default = y := ⟨_, rfl⟩
  rw [hy] at hv h
  unfold lookF at h
  simp only [go_sem, reduceCtorEq, Nat.reduceAdd, Nat.reduceMul, Nat.reduceLeDiff, Nat.reduceLT, Int.reduceLE, Int.reduceLT, Int.reduceEq, Nat.reduceBEq, Nat.reduceEqDiff, f.1, f.2.1, f.2.2, v.1, v.2.1, v.2.2.1, v.2.2.2, hd, hn.1, hn.2, hv]
  by_cases c : y.lock ≠ -1 ∧ y.lock ≠ t
  · have cb : (y.lock != -1 && y.lock != t) = true := by simp [c.1, c.2]
    rw [if_pos c] at h
    exact ⟨fun _ => fin_scA h, fun e => by rw [cb] at e; cases e⟩
  · have cb : (y.lock != -1 && y.lock != t) = false := by
      rw [Bool.eq_false_iff]; simp only [ne_eq, Bool.and_eq_true, bne_iff_ne]; exact c
    rw [if_neg c] at h
    refine ⟨fun e => (by rw [cb] at e; cases e), fun _ => ?_⟩
    refine awp_draw [] Try.mixed rfl ?_
    simp only [go_sem, reduceCtorEq, Nat.reduceAdd, Nat.reduceMul, Nat.reduceLeDiff, Nat.reduceLT, Int.reduceLE, Int.reduceLT, Int.reduceEq, Nat.reduceBEq, Nat.reduceEqDiff, g.1, g.2.1, g.2.2, TX.cells]
    by_cases c2 : y.ver > x.start
    · rw [if_pos c2] at h
      have c3 : decide (x.start < y.ver) = true := by simpa using c2
      exact ⟨fun _ => fin_scA h, fun e => by rw [c3] at e; cases e⟩
    · rw [if_neg c2] at h
      have c3 : decide (x.start < y.ver) = false := by simpa using c2
      exact ⟨fun e => (by rw [c3] at e; cases e), fun _ => fin_scA h⟩

/-- Is what was read so still? -/
def validL (t start : Int) (vars : List TV) : List Int → Int
  | [] => 0
  | n :: r => if lookF t start (vars.getD n.toNat default) = 0 then validL t start vars r else lookF t start (vars.getD n.toNat default)

theorem wrapS (k : Nat) (h : k ≤ 1000000) : IntKind.i64.wrap ((k : Int) + 1) = ((k + 1 : Nat) : Int) := by
  rw [IntWalk.i64_in _ (by omega)]; rfl

theorem getD_i64 {l : List Int} {k : Nat} (h : k < l.length) : (l.map i64).getD k .any = i64 (l.getD k 0) := by simp [List.getD_eq_getElem?_getD, h]
theorem drop_i64 {l : List Int} {k : Nat} (h : k < l.length) : l.drop k = l.getD k 0 :: l.drop (k + 1) := by
  rw [List.drop_eq_getElem_cons h]; simp [List.getD_eq_getElem?_getD, h]

theorem valid_c {st : St} {E : EG} (hE : EngAt st E) (t : Int) (x : TX) (hx : TxAt st x) (hr : ∀ n ∈ x.reads, 0 ≤ n ∧ n < (E.vars.length : Int)) (hl : x.reads.length ≤ 100000) (K : SV → St → Prop)
    (h : K (i64 (validL t x.start E.vars x.reads)) st) : ACalls Try.prog 63 [.ptr E.id 0, i64 t, .ptr x.id 0] K st := by
  refine acalls_go_pure [] Try.func63 rfl Try.results63 Try.ntmps63 ?_
  have g := cells_facts hx.cells
  simp only [go_sem, reduceCtorEq, Nat.reduceAdd, Nat.reduceMul, Nat.reduceLeDiff, Nat.reduceLT, Int.reduceLE, Int.reduceLT, Int.reduceEq, Nat.reduceBEq, Nat.reduceEqDiff, g.1, g.2.1, g.2.2, TX.cells]
  refine awp_rounds [] (fun m e s => ∃ (k : Nat), k + m = x.reads.length ∧ validL t x.start E.vars x.reads = validL t x.start E.vars (x.reads.drop k) ∧ e = [.ptr E.id 0, i64 t, .ptr x.id 0, .any, .any, .any, .any, .any, .any, .any, .any, .any, .any, .slice .imm 1 (x.reads.map i64), i64 x.reads.length, i64 k, .any, .any, .any, .any, .any, .any, .any, .any, .any, .any, .any, .any] ∧ s = st) (n := x.reads.length) ?_ ⟨0, by omega, rfl, rfl, rfl⟩ ?_
  · repeat (first | exact leEnv_nil | refine leEnv_any _ ?_ | refine leEnv_same _ ?_ | exact ⟨.inr (.inr rfl), by assumption⟩ | refine leEnv_norm (.slice (.own x.rid x.rver) 1 (x.reads.map i64)) ?_)
  rintro m e s ⟨k, hkm, hv, rfl, rfl⟩
  by_cases hlt : k < x.reads.length
  · have c1 : (k : Int) < (x.reads.length : Int) := by omega
    have hw := wrapS k (by omega)
    have hmem : x.reads.getD k 0 ∈ x.reads := by simp [List.getD_eq_getElem?_getD, hlt]
    have hlk := look_c hE t (x.reads.getD k 0) x hx.cells (hr _ hmem)
    rw [drop_i64 hlt, validL] at hv
    obtain ⟨f, hf⟩ : ∃ f, lookF t x.start (E.vars.getD (x.reads.getD k 0).toNat default) = f := ⟨_, rfl⟩
    rw [hf] at hlk hv
    by_cases c : f = 0
    · have cb : (f != 0) = false := by simp [c]
      rw [if_pos c] at hv
      simp only [go_sem, reduceCtorEq, Nat.reduceAdd, Nat.reduceMul, Nat.reduceLeDiff, Nat.reduceLT, Int.reduceLE, Int.reduceLT, Int.reduceEq, Nat.reduceBEq, Nat.reduceEqDiff, c1, getD_i64 hlt]
      refine hlk _ ?_
      simp only [go_sem, reduceCtorEq, Nat.reduceAdd, Nat.reduceMul, Nat.reduceLeDiff, Nat.reduceLT, Int.reduceLE, Int.reduceLT, Int.reduceEq, Nat.reduceBEq, Nat.reduceEqDiff, cb, hw]
      refine ⟨m - 1, _, by omega, ?_, k + 1, by omega, hv, rfl⟩
      repeat (first | exact leEnv_nil | refine leEnv_any _ ?_ | refine leEnv_same _ ?_ | refine leEnv_norm _ ?_)
    · have cb : (f != 0) = true := by simp [c]
      rw [if_neg c] at hv
      simp only [go_sem, reduceCtorEq, Nat.reduceAdd, Nat.reduceMul, Nat.reduceLeDiff, Nat.reduceLT, Int.reduceLE, Int.reduceLT, Int.reduceEq, Nat.reduceBEq, Nat.reduceEqDiff, c1, getD_i64 hlt]
      refine hlk _ ?_
      simp only [go_sem, reduceCtorEq, Nat.reduceAdd, Nat.reduceMul, Nat.reduceLeDiff, Nat.reduceLT, Int.reduceLE, Int.reduceLT, Int.reduceEq, Nat.reduceBEq, Nat.reduceEqDiff, cb]
      rw [← hv]
      exact fin_sc h
  · obtain rfl : k = x.reads.length := by omega
    simp only [go_sem, reduceCtorEq, Nat.reduceAdd, Nat.reduceMul, Nat.reduceLeDiff, Nat.reduceLT, Int.reduceLE, Int.reduceLT, Int.reduceEq, Nat.reduceBEq, Nat.reduceEqDiff, Int.lt_irrefl]
    rw [hv, List.drop_length] at h
    exact fin_sc h

end Go.Proofs
set_option linter.unusedSimpArgs false
set_option maxRecDepth 8000
namespace Go.Proofs
open Go Go.AL

/-- What is kept of an engine: what was read are vars. -/
structure Fine (E : EG) : Prop where
  reads : ∀ (t : Nat) (x : TX), E.txs[t]? = some (some x) → (∀ n ∈ x.reads, 0 ≤ n ∧ n < (E.vars.length : Int)) ∧ x.reads.length ≤ 100000 ∧ x.mids.length ≤ 100000
  one : ∀ (t : Nat) (x : TX), E.txs[t]? = some (some x) → 1 ≤ x.mids.length
  dom : ∀ (t : Nat) (x : TX), E.txs[t]? = some (some x) → ∀ m ∈ x.maps, ∀ k, (pmGet m k).isSome = true → 0 ≤ k ∧ k < (E.vars.length : Int)
  clk : 0 ≤ E.clock ∧ E.clock ≤ 1000000000
  left : ∀ (t : Nat) (x : TX), E.txs[t]? = some (some x) → x.pointed = true → x.left ≠ [] ∧ ∀ n ∈ x.left, 0 ≤ n ∧ n < (E.vars.length : Int)

theorem clock_c {st : St} {E : EG} (hE : EngAt st E) (K : SV → St → Prop) (h : K (i64 E.clock) st) : ACalls Try.prog 24 [.ptr E.id 0] K st := by
  refine acalls_go_pure [] Try.func24 rfl Try.results24 Try.ntmps24 ?_
  have f := cells_facts hE.cells
  simp only [go_sem, reduceCtorEq, Nat.reduceAdd, Nat.reduceMul, Nat.reduceLeDiff, Nat.reduceLT, Int.reduceLE, Int.reduceLT, Int.reduceEq, Nat.reduceBEq, Nat.reduceEqDiff, f.1, f.2.1, f.2.2, EG.cells]
  exact fin_sc h

theorem active_c {st : St} {E : EG} (hE : EngAt st E) (t : Int) (K : SV → St → Prop) (h : K (.sc (.bool (E.of t).isSome)) st) : ACalls Try.prog 20 [.ptr E.id 0, i64 t] K st := by
  refine acalls_go_pure [] Try.func20 rfl Try.results20 Try.ntmps20 ?_
  have hof := of_c hE t
  cases hx : E.of t with
  | none =>
    rw [hx] at hof h
    simp only [go_sem, reduceCtorEq, Nat.reduceAdd, Nat.reduceMul, Nat.reduceLeDiff, Nat.reduceLT, Int.reduceLE, Int.reduceLT, Int.reduceEq, Nat.reduceBEq, Nat.reduceEqDiff]
    refine hof _ ?_
    simp only [txSV, go_sem, reduceCtorEq, Nat.reduceAdd, Nat.reduceMul, Nat.reduceLeDiff, Nat.reduceLT, Int.reduceLE, Int.reduceLT, Int.reduceEq, Nat.reduceBEq, Nat.reduceEqDiff]
    exact fin_sc h
  | some x =>
    rw [hx] at hof h
    simp only [go_sem, reduceCtorEq, Nat.reduceAdd, Nat.reduceMul, Nat.reduceLeDiff, Nat.reduceLT, Int.reduceLE, Int.reduceLT, Int.reduceEq, Nat.reduceBEq, Nat.reduceEqDiff]
    refine hof _ ?_
    simp only [txSV, go_sem, reduceCtorEq, Nat.reduceAdd, Nat.reduceMul, Nat.reduceLeDiff, Nat.reduceLT, Int.reduceLE, Int.reduceLT, Int.reduceEq, Nat.reduceBEq, Nat.reduceEqDiff]
    exact fin_sc h

theorem start_c {st : St} {E : EG} (hE : EngAt st E) (t : Int) (K : SV → St → Prop) (h : K (i64 (match E.of t with | some x => x.start | none => 0)) st) : ACalls Try.prog 28 [.ptr E.id 0, i64 t] K st := by
  refine acalls_go_pure [] Try.func28 rfl Try.results28 Try.ntmps28 ?_
  have hof := of_c hE t
  cases hx : E.of t with
  | none =>
    rw [hx] at hof h
    simp only [go_sem, reduceCtorEq, Nat.reduceAdd, Nat.reduceMul, Nat.reduceLeDiff, Nat.reduceLT, Int.reduceLE, Int.reduceLT, Int.reduceEq, Nat.reduceBEq, Nat.reduceEqDiff]
    refine hof _ ?_
    simp only [txSV, go_sem, reduceCtorEq, Nat.reduceAdd, Nat.reduceMul, Nat.reduceLeDiff, Nat.reduceLT, Int.reduceLE, Int.reduceLT, Int.reduceEq, Nat.reduceBEq, Nat.reduceEqDiff]
    exact fin_sc h
  | some x =>
    rw [hx] at hof h
    have g := cells_facts (hE.tx _ x (of_some hx).2).cells
    simp only [go_sem, reduceCtorEq, Nat.reduceAdd, Nat.reduceMul, Nat.reduceLeDiff, Nat.reduceLT, Int.reduceLE, Int.reduceLT, Int.reduceEq, Nat.reduceBEq, Nat.reduceEqDiff]
    refine hof _ ?_
    simp only [txSV, go_sem, reduceCtorEq, Nat.reduceAdd, Nat.reduceMul, Nat.reduceLeDiff, Nat.reduceLT, Int.reduceLE, Int.reduceLT, Int.reduceEq, Nat.reduceBEq, Nat.reduceEqDiff, g.1, g.2.1, g.2.2, TX.cells]
    exact fin_sc h

theorem Valid_c {st : St} {E : EG} (hE : EngAt st E) (hF : Fine E) (t : Int) (K : SV → St → Prop) (h : K (i64 (match E.opn t with | some x => validL t x.start E.vars x.reads | none => 1)) st) : ACalls Try.prog 58 [.ptr E.id 0, i64 t] K st := by
  refine acalls_go_pure [] Try.func58 rfl Try.results58 Try.ntmps58 ?_
  have hof := open_c hE t
  cases hx : E.opn t with
  | none =>
    rw [hx] at hof h
    simp only [go_sem, reduceCtorEq, Nat.reduceAdd, Nat.reduceMul, Nat.reduceLeDiff, Nat.reduceLT, Int.reduceLE, Int.reduceLT, Int.reduceEq, Nat.reduceBEq, Nat.reduceEqDiff]
    refine hof _ ?_
    simp only [txSV, go_sem, reduceCtorEq, Nat.reduceAdd, Nat.reduceMul, Nat.reduceLeDiff, Nat.reduceLT, Int.reduceLE, Int.reduceLT, Int.reduceEq, Nat.reduceBEq, Nat.reduceEqDiff]
    exact fin_sc h
  | some x =>
    rw [hx] at hof h
    have hy := of_some (opn_some hx).1
    have hr := hF.reads _ x hy.2
    have hvc := valid_c hE t x (hE.tx _ x hy.2) hr.1 hr.2.1
    simp only [go_sem, reduceCtorEq, Nat.reduceAdd, Nat.reduceMul, Nat.reduceLeDiff, Nat.reduceLT, Int.reduceLE, Int.reduceLT, Int.reduceEq, Nat.reduceBEq, Nat.reduceEqDiff]
    refine hof _ ?_
    simp only [txSV, go_sem, reduceCtorEq, Nat.reduceAdd, Nat.reduceMul, Nat.reduceLeDiff, Nat.reduceLT, Int.reduceLE, Int.reduceLT, Int.reduceEq, Nat.reduceBEq, Nat.reduceEqDiff]
    refine hvc _ ?_
    simp only [go_sem, reduceCtorEq, Nat.reduceAdd, Nat.reduceMul, Nat.reduceLeDiff, Nat.reduceLT, Int.reduceLE, Int.reduceLT, Int.reduceEq, Nat.reduceBEq, Nat.reduceEqDiff]
    exact fin_sc h

theorem value_c {st : St} {E : EG} (hE : EngAt st E) (n : Int) (K : SV → St → Prop) (h : K (.tuple [i64 (if E.is n = true then (E.vars.getD n.toNat default).val else 0), i64 (if E.is n = true then 0 else 1)]) st) : ACalls Try.prog 23 [.ptr E.id 0, i64 n] K st := by
  refine acalls_go_pure [] Try.func23 rfl Try.results23 Try.ntmps23 ?_
  have f := cells_facts hE.cells
  have v := arr_facts hE.vars
  have his := is_c hE n
  have hd : List.drop 1 E.cells = .arr E.vid E.vver E.vars.length :: E.txs.map txSV := rfl
  cases hb : E.is n with
  | false =>
    rw [hb] at his h
    simp only [Bool.false_eq_true, if_false] at h
    simp only [go_sem, reduceCtorEq, Nat.reduceAdd, Nat.reduceMul, Nat.reduceLeDiff, Nat.reduceLT, Int.reduceLE, Int.reduceLT, Int.reduceEq, Nat.reduceBEq, Nat.reduceEqDiff]
    refine his _ ?_
    simp only [go_sem, reduceCtorEq, Nat.reduceAdd, Nat.reduceMul, Nat.reduceLeDiff, Nat.reduceLT, Int.reduceLE, Int.reduceLT, Int.reduceEq, Nat.reduceBEq, Nat.reduceEqDiff]
    exact ⟨⟨[], by simp⟩, by simp only [norm, List.map_cons, List.map_nil, norm1, go_sem], h⟩
  | true =>
    rw [hb] at his h
    simp only [if_true] at h
    have hb' := hb
    unfold EG.is at hb'
    simp only [Bool.and_eq_true, decide_eq_true_eq] at hb'
    have hv := vars_drop (l := E.vars) (n := n.toNat) (by omega)
    simp only [go_sem, reduceCtorEq, Nat.reduceAdd, Nat.reduceMul, Nat.reduceLeDiff, Nat.reduceLT, Int.reduceLE, Int.reduceLT, Int.reduceEq, Nat.reduceBEq, Nat.reduceEqDiff]
    refine his _ ?_
    simp only [go_sem, reduceCtorEq, Nat.reduceAdd, Nat.reduceMul, Nat.reduceLeDiff, Nat.reduceLT, Int.reduceLE, Int.reduceLT, Int.reduceEq, Nat.reduceBEq, Nat.reduceEqDiff, f.1, f.2.1, f.2.2, v.1, v.2.1, v.2.2.1, v.2.2.2, hd, hb'.1, hb'.2, hv]
    exact ⟨⟨[], by simp⟩, by simp only [norm, List.map_cons, List.map_nil, norm1, go_sem], h⟩

theorem newer_c {st : St} {E : EG} (hE : EngAt st E) (n than : Int) (K : SV → St → Prop) (h : K (.sc (.bool (E.is n && decide (than < (E.vars.getD n.toNat default).ver)))) st) : ACalls Try.prog 65 [.ptr E.id 0, i64 n, i64 than] K st := by
  refine acalls_go_pure [] Try.func65 rfl Try.results65 Try.ntmps65 ?_
  have f := cells_facts hE.cells
  have v := arr_facts hE.vars
  have his := is_c hE n
  have hd : List.drop 1 E.cells = .arr E.vid E.vver E.vars.length :: E.txs.map txSV := rfl
  cases hb : E.is n with
  | false =>
    rw [hb] at his h
    simp only [go_sem, reduceCtorEq, Nat.reduceAdd, Nat.reduceMul, Nat.reduceLeDiff, Nat.reduceLT, Int.reduceLE, Int.reduceLT, Int.reduceEq, Nat.reduceBEq, Nat.reduceEqDiff]
    refine his _ ?_
    simp only [go_sem, reduceCtorEq, Nat.reduceAdd, Nat.reduceMul, Nat.reduceLeDiff, Nat.reduceLT, Int.reduceLE, Int.reduceLT, Int.reduceEq, Nat.reduceBEq, Nat.reduceEqDiff]
    exact fin_sc h
  | true =>
    rw [hb] at his h
    have hb' := hb
    unfold EG.is at hb'
    simp only [Bool.and_eq_true, decide_eq_true_eq] at hb'
    have hv := vars_drop1 (l := E.vars) (n := n.toNat) (by omega)
    simp only [go_sem, reduceCtorEq, Nat.reduceAdd, Nat.reduceMul, Nat.reduceLeDiff, Nat.reduceLT, Int.reduceLE, Int.reduceLT, Int.reduceEq, Nat.reduceBEq, Nat.reduceEqDiff]
    refine his _ ?_
    simp only [go_sem, reduceCtorEq, Nat.reduceAdd, Nat.reduceMul, Nat.reduceLeDiff, Nat.reduceLT, Int.reduceLE, Int.reduceLT, Int.reduceEq, Nat.reduceBEq, Nat.reduceEqDiff, f.1, f.2.1, f.2.2, v.1, v.2.1, v.2.2.1, v.2.2.2, hd, hb'.1, hb'.2, hv]
    exact fin_sc h

end Go.Proofs
set_option linter.unusedSimpArgs false
set_option maxRecDepth 8000
namespace Go.Proofs
open Go Go.AL

/-- The engine as it is without its places. -/
structure TP where
  start : Int
  stamp : Int
  reads : List Int
  maps : List FM
  commits : Bool
  pointed : Bool
  left : List Int
structure EP where
  clock : Int
  vars : List TV
  txs : List (Option TP)
def TX.abs (x : TX) : TP := ⟨x.start, x.stamp, x.reads, x.maps.map pmGet, x.commits, x.pointed, x.left⟩
def EG.abs (E : EG) : EP := ⟨E.clock, E.vars, E.txs.map (Option.map TX.abs)⟩

theorem fin_tup2 {K : SV → St → Prop} {st s : St} {a b : Value} (hs : Mod st s) (h : K (.tuple [.sc a, .sc b]) s) {ex : St} : FinM st K (.tuple [.sc a, .sc b]) (s ++ ex) :=
  ⟨s, ex, rfl, hs, by simp only [norm, List.map_cons, List.map_nil, norm1, go_sem], h⟩
theorem fin_tup20 {K : SV → St → Prop} {st s : St} {a b : Value} (hs : Mod st s) (h : K (.tuple [.sc a, .sc b]) s) : FinM st K (.tuple [.sc a, .sc b]) s :=
  ⟨s, [], by simp, hs, by simp only [norm, List.map_cons, List.map_nil, norm1, go_sem], h⟩
theorem fin_one {K : SV → St → Prop} {st s : St} {a : Value} (hs : Mod st s) (h : K (.sc a) s) : FinM st K (.sc a) s :=
  ⟨s, [], by simp, hs, .sc _, h⟩

def makeF (E : EP) (v : Int) : (Int × Int) × EP := if E.vars.length < 4000 then (((E.vars.length : Int), 0), { E with vars := E.vars ++ [⟨v, 0, -1⟩] }) else ((0, 16), E)

theorem ids_i64s (n : Nat) (l : List SV) (h : ∀ x ∈ l, ∃ v, x = .sc v) : ∀ x ∈ l, Ids n x := fun x hx => by
  obtain ⟨v, rfl⟩ := h x hx
  exact .sc v
theorem vars_sc (l : List TV) : ∀ x ∈ l.flatMap tvSV, ∃ v, x = SV.sc v := by
  intro x hx
  obtain ⟨v, _, hv⟩ := List.mem_flatMap.1 hx
  simp only [tvSV, List.mem_cons, List.not_mem_nil, or_false] at hv
  rcases hv with rfl | rfl | rfl <;> exact ⟨_, rfl⟩

theorem EngAt.vidne {st : St} {E : EG} (h : EngAt st E) : E.id ≠ E.vid := by
  intro e
  have h1 := h.cells
  rw [e, h.vars] at h1
  cases h1

theorem TxAt.of_same {st s : St} {x : TX} (h : TxAt st x) (hs : ∀ j, x.has j → s[j]? = st[j]?) : TxAt s x := by
  refine ⟨by rw [hs _ (.inl rfl)]; exact h.cells, by rw [hs _ (.inr (.inl rfl))]; exact h.tok, ?_, h.len, fun i hi => ?_, h.nodup, h.keys⟩
  · rw [hs _ (.inr (.inr (.inl rfl)))]; exact h.parts
  · have hm : x.mids.getD i 0 ∈ x.mids := by simp [List.getD_eq_getElem?_getD, hi]
    rw [hs _ (.inr (.inr (.inr hm)))]; exact h.maps i hi

/-- No place of a transaction is the engine's own. -/
theorem EngAt.tx_ne {st : St} {E : EG} (h : EngAt st E) {t : Nat} {x : TX} (hx : E.txs[t]? = some (some x)) {j : Nat} (hj : x.has j) : j ≠ E.id ∧ j ≠ E.vid := by
  have hT := h.tx t x hx
  have ho := h.own t x hx
  have hc := h.cells
  have hv := h.vars
  rcases hj with rfl | rfl | rfl | hm
  · refine ⟨ho.1, fun e => ?_⟩
    have := hT.cells; rw [e, hv] at this; cases this
  · refine ⟨fun e => ?_, fun e => ?_⟩
    · have := hT.tok; rw [e, hc] at this; cases this
    · have := hT.tok; rw [e, hv] at this; cases this
  · refine ⟨fun e => ?_, ho.2⟩
    obtain ⟨cs, h1, _⟩ := hT.parts
    rw [e, hc] at h1; cases h1
  · obtain ⟨i, hi⟩ := List.getElem?_of_mem hm
    have hlt := lt_of_get hi
    have := hT.maps i hlt
    rw [List.getD_eq_getElem?_getD, hi] at this
    refine ⟨fun e => ?_, fun e => ?_⟩
    · rw [Option.getD_some, e, hc] at this; cases this
    · rw [Option.getD_some, e, hv] at this; cases this


theorem eng_core {st s : St} {E E' : EG} (h : EngAt st E) (hid : E'.id = E.id) (hvid : E'.vid = E.vid) (htxs : E'.txs = E.txs) (h1 : s[E.id]? = some (.cells E'.cells)) (h2 : s[E.vid]? = some (.arr E'.vver 3 (E'.vars.flatMap tvSV)))
    (hm : E'.vars.length ≤ 4000) (hlen : st.length ≤ s.length) (ho : ∀ j, j ≠ E.id → j ≠ E.vid → j < st.length → s[j]? = st[j]?) : EngAt s E' ∧ Fr st E s E' := by
  have hlt : ∀ (t : Nat) (x : TX), E.txs[t]? = some (some x) → ∀ j, x.has j → j < st.length := by
    intro t x hx j hj
    have hT := h.tx t x hx
    rcases hj with rfl | rfl | rfl | hm
    · exact lt_of_get hT.cells
    · exact lt_of_get hT.tok
    · obtain ⟨cs, h1, _⟩ := hT.parts; exact lt_of_get h1
    · obtain ⟨i, hi⟩ := List.getElem?_of_mem hm
      have hl := lt_of_get hi
      have := hT.maps i hl
      rw [List.getD_eq_getElem?_getD, hi] at this
      exact lt_of_get this
  refine ⟨⟨by rw [hid]; exact h1, by rw [hvid]; exact h2, by rw [htxs]; exact h.len, hm, fun t x hx => ?_, by rw [htxs]; exact h.apart, by rw [htxs, hid, hvid]; exact h.own⟩,
    ⟨hlen, fun j hj hn => ?_, fun j hj => .inl ?_, hid⟩⟩
  · rw [htxs] at hx
    exact (h.tx t x hx).of_same fun j hj => ho j (h.tx_ne hx hj).1 (h.tx_ne hx hj).2 (hlt t x hx j hj)
  · exact ho j (fun e => hn (.inl e)) (fun e => hn (.inr (.inl e))) hj
  · unfold EG.has at hj ⊢
    rwa [hid, hvid, htxs] at hj

theorem ids_txs {st : St} {E : EG} (h : EngAt st E) : ∀ x ∈ E.txs.map txSV, Ids st.length x := by
  intro x hx
  obtain ⟨o, ho, rfl⟩ := List.mem_map.1 hx
  obtain ⟨i, hi⟩ := List.getElem?_of_mem ho
  cases o with
  | none => exact .sc _
  | some y => exact h.ids hi

theorem app_vars {n : Nat} (h : n ≤ 1000000) : AppOk Try.prog 88 88 3 n := appOk_of Try.aelem88 Try.aelem88 Try.asize106 Try.azero106 rfl Try.abytes106 (by omega) h

set_option maxHeartbeats 4000000 in
theorem make_c {st : St} {E : EG} (hE : EngAt st E) (v : Int) (K : SV → St → Prop)
    (h : ∀ s E', EngAt s E' → Fr st E s E' → E'.abs = (makeF E.abs v).2 → K (.tuple [i64 (makeF E.abs v).1.1, i64 (makeF E.abs v).1.2]) s) : ACalls Try.prog 44 [.ptr E.id 0, i64 v] K st := by
  refine acalls_go_mod [] Try.func44 rfl Try.results44 Try.ntmps44 ?_
  have f := cells_facts hE.cells
  have w := arr_facts hE.vars
  have hne := hE.vidne
  have hne' := hE.vidne.symm
  have hlt1 := lt_of_get hE.cells
  have hlt2 := lt_of_get hE.vars
  have hmany := hE.many
  by_cases c : E.vars.length < 4000
  · have cb : (4000 : Int) ≤ (E.vars.length : Int) ↔ False := by simp; omega
    have hmk : makeF E.abs v = (((E.vars.length : Int), 0), { E.abs with vars := E.vars ++ [⟨v, 0, -1⟩] }) := by
      unfold makeF; rw [if_pos (show E.abs.vars.length < 4000 from c)]; rfl
    rw [hmk] at h
    have htk : (E.vars.flatMap tvSV).take (E.vars.length * 3) = E.vars.flatMap tvSV := List.take_of_length_le (by rw [vars_len]; omega)
    have happ := app_vars (n := E.vars.length + 1) (by omega)
    have hw1 : IntKind.i64.wrap (((E.vars.length + 1 : Nat) : Int) - 1) = (E.vars.length : Int) := by rw [IntWalk.i64_in _ (by omega)]; omega
    simp only [go_sem, reduceCtorEq, Nat.reduceAdd, Nat.reduceMul, Nat.reduceLeDiff, Nat.reduceLT, Int.reduceLE, Int.reduceLT, Int.reduceEq, Nat.reduceBEq, Nat.reduceEqDiff, f.1, f.2.1, f.2.2, w.1, w.2.1, w.2.2.1, w.2.2.2, EG.cells, cb, htk, hw1, hne, hne', List.flatMap_cons, List.flatMap_nil]
    have hs : Mod st ((st.set E.vid (.arr (E.vver + 1) 3 (E.vars.flatMap tvSV ++ [i64 v, i64 0, i64 (-1)]))).set E.id (.cells (i64 E.clock :: .arr E.vid (E.vver + 1) (E.vars.length + 1) :: E.txs.map txSV))) := by
      refine ((Mod.refl st).set E.vid _ ?_).set E.id _ ?_
      · rw [obIds_arr]
        refine ids_i64s _ _ fun x hx => ?_
        rcases List.mem_append.1 hx with h1 | h1
        · exact vars_sc _ x h1
        · simp only [List.mem_cons, List.not_mem_nil, or_false] at h1
          rcases h1 with rfl | rfl | rfl <;> exact ⟨_, rfl⟩
      · rw [obIds_cells, List.length_set]
        intro x hx
        rcases List.mem_cons.1 hx with rfl | hx
        · exact .sc _
        rcases List.mem_cons.1 hx with rfl | hx
        · exact .arr _ _ _ hlt2
        exact ids_txs hE x hx
    have key := eng_core (s := (st.set E.vid (.arr (E.vver + 1) 3 (E.vars.flatMap tvSV ++ [i64 v, i64 0, i64 (-1)]))).set E.id (.cells (i64 E.clock :: .arr E.vid (E.vver + 1) (E.vars.length + 1) :: E.txs.map txSV)))
      (E' := { E with vver := E.vver + 1, vars := E.vars ++ [⟨v, 0, -1⟩] }) hE rfl rfl rfl (by rw [set_get (by simpa using hlt1)]; simp [EG.cells]) (by rw [List.getElem?_set_ne hne, set_get hlt2, List.flatMap_append]; rfl) (by simp; omega) (by simp)
      (fun j j1 j2 j3 => by rw [List.getElem?_set_ne (Ne.symm j1), List.getElem?_set_ne (Ne.symm j2)])
    exact ⟨happ, fin_tup20 hs (h _ _ key.1 key.2 rfl)⟩
  · have c4 : E.vars.length = 4000 := by omega
    have hmk : makeF E.abs v = ((0, 16), E.abs) := by
      unfold makeF; rw [if_neg (show ¬ E.abs.vars.length < 4000 from c)]
    rw [hmk] at h
    have cb : (4000 : Int) ≤ (E.vars.length : Int) ↔ True := by simp; omega
    simp only [go_sem, reduceCtorEq, Nat.reduceAdd, Nat.reduceMul, Nat.reduceLeDiff, Nat.reduceLT, Int.reduceLE, Int.reduceLT, Int.reduceEq, Nat.reduceBEq, Nat.reduceEqDiff, f.1, f.2.1, f.2.2, w.1, w.2.1, w.2.2.1, w.2.2.2, EG.cells, cb]
    exact fin_tup20 (Mod.refl st) (h st E hE (Fr.refl _ _) rfl)


theorem TxAt.has_lt {st : St} {x : TX} (hT : TxAt st x) {j : Nat} (hj : x.has j) : j < st.length := by
  rcases hj with rfl | rfl | rfl | hm
  · exact lt_of_get hT.cells
  · exact lt_of_get hT.tok
  · obtain ⟨cs, h1, _⟩ := hT.parts; exact lt_of_get h1
  · obtain ⟨i, hi⟩ := List.getElem?_of_mem hm
    have := hT.maps i (lt_of_get hi)
    rw [List.getD_eq_getElem?_getD, hi] at this
    exact lt_of_get this

theorem TxAt.map_mem {st : St} {x : TX} (hT : TxAt st x) {m : Nat} (hm : m ∈ x.mids) : ∃ es, st[m]? = some (.map es) := by
  obtain ⟨i, hi⟩ := List.getElem?_of_mem hm
  have := hT.maps i (lt_of_get hi)
  rw [List.getD_eq_getElem?_getD, hi] at this
  exact ⟨_, this⟩

/-- What one thread has no other one has. -/
theorem EngAt.disj {st : St} {E : EG} (h : EngAt st E) {t t' : Nat} {x y : TX} (hx : E.txs[t]? = some (some x)) (hy : E.txs[t']? = some (some y)) (hne : t ≠ t') {j : Nat} (h1 : x.has j) (h2 : y.has j) : False := by
  have hX := h.tx t x hx
  have hY := h.tx t' y hy
  obtain ⟨a1, a2, a3, a4⟩ := h.apart t t' x y hx hy hne
  obtain ⟨cs, p1, _⟩ := hX.parts
  obtain ⟨cs', p2, _⟩ := hY.parts
  rcases h1 with e1 | e1 | e1 | m1 <;> rcases h2 with e2 | e2 | e2 | m2
  · exact a1 (e1.symm.trans e2)
  · have := hX.cells; rw [← e1, e2, hY.tok] at this; cases this
  · have := hX.cells; rw [← e1, e2, p2] at this; cases this
  · obtain ⟨es, q⟩ := hY.map_mem m2; have := hX.cells; rw [← e1, q] at this; cases this
  · have := hX.tok; rw [← e1, e2, hY.cells] at this; cases this
  · exact a2 (e1.symm.trans e2)
  · have := hX.tok; rw [← e1, e2, p2] at this; cases this
  · obtain ⟨es, q⟩ := hY.map_mem m2; have := hX.tok; rw [← e1, q] at this; cases this
  · rw [← e1, e2, hY.cells] at p1; cases p1
  · rw [← e1, e2, hY.tok] at p1; cases p1
  · exact a3 (e1.symm.trans e2)
  · obtain ⟨es, q⟩ := hY.map_mem m2; rw [← e1, q] at p1; cases p1
  · obtain ⟨es, q⟩ := hX.map_mem m1; rw [e2, hY.cells] at q; cases q
  · obtain ⟨es, q⟩ := hX.map_mem m1; rw [e2, hY.tok] at q; cases q
  · obtain ⟨es, q⟩ := hX.map_mem m1; rw [e2, p2] at q; cases q
  · exact a4 j m1 m2

theorem eng_upd {st s : St} {E E' : EG} (h : EngAt st E) {t : Nat} (ht : t < 8) (o' : Option TX) (hid : E'.id = E.id) (hvid : E'.vid = E.vid) (htxs : E'.txs = E.txs.set t o') (h1 : s[E.id]? = some (.cells E'.cells)) (h2 : s[E.vid]? = some (.arr E'.vver 3 (E'.vars.flatMap tvSV)))
    (hm : E'.vars.length ≤ 4000) (hlen : st.length ≤ s.length) (ho : ∀ j, j ≠ E.id → j ≠ E.vid → (∀ x, E.txs[t]? = some (some x) → ¬ x.has j) → j < st.length → s[j]? = st[j]?)
    (hx' : ∀ x', o' = some x' → TxAt s x' ∧ ∀ j, x'.has j → (∃ x, E.txs[t]? = some (some x) ∧ x.has j) ∨ st.length ≤ j) : EngAt s E' ∧ Fr st E s E' := by
  have hl := h.len
  have hget : ∀ (u : Nat) (y : TX), E'.txs[u]? = some (some y) → (u = t ∧ o' = some y) ∨ (u ≠ t ∧ E.txs[u]? = some (some y)) := by
    intro u y hy
    rw [htxs] at hy
    by_cases e : u = t
    · subst e
      rw [List.getElem?_set_self (by omega)] at hy
      exact .inl ⟨rfl, by simpa using hy⟩
    · rw [List.getElem?_set_ne (Ne.symm e)] at hy
      exact .inr ⟨e, hy⟩
  have hnew : ∀ x', o' = some x' → ∀ (u : Nat) (y : TX), u ≠ t → E.txs[u]? = some (some y) → ∀ j, x'.has j → ¬ y.has j := by
    intro x' hx u y hu hy j hj hj2
    rcases (hx' x' hx).2 j hj with ⟨x, h3, h4⟩ | h3
    · exact h.disj h3 hy (Ne.symm hu) h4 hj2
    · have := (h.tx u y hy).has_lt hj2; omega
  have hself : ∀ (y : TX), y.has y.id ∧ y.has y.rid ∧ y.has y.pid ∧ ∀ m ∈ y.mids, y.has m := fun y => ⟨.inl rfl, .inr (.inl rfl), .inr (.inr (.inl rfl)), fun m hm => .inr (.inr (.inr hm))⟩
  have hap : ∀ x y : TX, (∀ j, x.has j → ¬ y.has j) → x.id ≠ y.id ∧ x.rid ≠ y.rid ∧ x.pid ≠ y.pid ∧ ∀ m ∈ x.mids, m ∉ y.mids := by
    intro x y hd
    obtain ⟨a1, a2, a3, a4⟩ := hself x
    obtain ⟨b1, b2, b3, b4⟩ := hself y
    exact ⟨fun e => hd _ a1 (e ▸ b1), fun e => hd _ a2 (e ▸ b2), fun e => hd _ a3 (e ▸ b3), fun m hm hn => hd m (a4 m hm) (b4 m hn)⟩
  have hlt1 := lt_of_get h.cells
  have hlt2 := lt_of_get h.vars
  refine ⟨⟨by rw [hid]; exact h1, by rw [hvid]; exact h2, by rw [htxs]; simpa using hl, hm, fun u y hy => ?_, fun u u' y y' hy hy' hne => ?_, fun u y hy => ?_⟩, ⟨hlen, fun j hj hn => ?_, fun j hj => ?_, hid⟩⟩
  · rcases hget u y hy with ⟨_, e⟩ | ⟨e, hy'⟩
    · exact (hx' y e).1
    · exact (h.tx u y hy').of_same fun j hj => ho j (h.tx_ne hy' hj).1 (h.tx_ne hy' hj).2 (fun x hx hxj => h.disj hx hy' (Ne.symm e) hxj hj) ((h.tx u y hy').has_lt hj)
  · rcases hget u y hy with ⟨e, f⟩ | ⟨e, f⟩ <;> rcases hget u' y' hy' with ⟨e', f'⟩ | ⟨e', f'⟩
    · omega
    · exact hap y y' (hnew y f u' y' e' f')
    · refine hap y y' fun j hj hj' => hnew y' f' u y e f j hj' hj
    · exact h.apart u u' y y' f f' hne
  · rcases hget u y hy with ⟨e, f⟩ | ⟨e, f⟩
    · rw [hid, hvid]
      refine ⟨fun q => ?_, fun q => ?_⟩
      · rcases (hx' y f).2 y.id (hself y).1 with ⟨x, h3, h4⟩ | h3
        · exact (h.tx_ne h3 h4).1 q
        · omega
      · rcases (hx' y f).2 y.pid (hself y).2.2.1 with ⟨x, h3, h4⟩ | h3
        · exact (h.tx_ne h3 h4).2 q
        · omega
    · rw [hid, hvid]; exact h.own u y f
  · exact ho j (fun e => hn (.inl e)) (fun e => hn (.inr (.inl e))) (fun x hx hxj => hn (.inr (.inr ⟨t, x, hx, hxj⟩))) hj
  · rcases hj with e | e | ⟨u, y, hy, hyj⟩
    · exact .inl (.inl (by rw [← hid]; exact e))
    · exact .inl (.inr (.inl (by rw [← hvid]; exact e)))
    · rcases hget u y hy with ⟨_, f⟩ | ⟨_, f⟩
      · rcases (hx' y f).2 j hyj with ⟨x, h3, h4⟩ | h3
        · exact .inl (.inr (.inr ⟨t, x, h3, h4⟩))
        · exact .inr h3
      · exact .inl (.inr (.inr ⟨u, y, f, hyj⟩))

end Go.Proofs
set_option linter.unusedSimpArgs false
set_option maxRecDepth 8000
namespace Go.Proofs
open Go Go.AL

def beginF (E : EP) (t : Int) : Int × EP := if 0 ≤ t ∧ t < 8 ∧ (E.txs[t.toNat]?).join.isNone = true then (0, { E with txs := E.txs.set t.toNat (some ⟨E.clock, 0, [], [fun _ => none], false, false, []⟩) }) else (1, E)

theorem abs_get (E : EG) (t : Nat) : ((E.abs.txs[t]?).join) = ((E.txs[t]?).join).map TX.abs := by
  show ((E.txs.map (Option.map TX.abs))[t]?).join = _
  rw [List.getElem?_map]
  cases E.txs[t]? with
  | none => rfl
  | some o => cases o <;> rfl

theorem ids_full0 (n z : Nat) : Ids n (.slice .full z []) := .slice _ _ _ (fun _ _ e => by cases e) (fun i j hi => absurd hi (Nat.not_lt_zero _))

def bornX (E : EG) (n : Nat) : TX := ⟨n + 2, n + 3, 0, n + 1, 1, [n], E.clock, 0, [], [[]], false, false, []⟩

theorem getElem?_app2 {st : St} {o : Ob} {E : Nat} {l : St} {i : Nat} (h : E < st.length) (hi : st.length ≤ i) : (st.set E o ++ l)[i]? = l[i - st.length]? := by
  rw [List.getElem?_append_right (by simpa using hi), List.length_set]

theorem begin_end {st : St} {E : EG} (hE : EngAt st E) {t : Nat} (ht : t < 8) (ho : E.txs[t]? = some none) {K : SV → St → Prop}
    (h : ∀ s E', EngAt s E' → Fr st E s E' → E'.abs = { E.abs with txs := E.abs.txs.set t (some ⟨E.clock, 0, [], [fun _ => none], false, false, []⟩) } → K (.sc (.int .i64 0)) s) :
    ∃ s2, Conv (st.set E.id (.cells (E.cells.take (2 + t) ++ .ptr (st.length + 2) 0 :: E.cells.drop (2 + (t + 1)))) ++ [Ob.map [], Ob.arr 1 1 [.mp st.length],
      Ob.cells [i64 E.clock, i64 0, .slice .full 0 [], .arr (st.length + 1) 1 1, .sc (.bool false), .sc (.bool false), .slice .full 0 []]]) s2 ∧ K (.sc (.int .i64 0)) s2 := by
  have hl := hE.len
  have hlt := lt_of_get hE.cells
  have hvt := lt_of_get hE.vars
  have hce : E.cells.take (2 + t) ++ .ptr (st.length + 2) 0 :: E.cells.drop (2 + (t + 1)) = ({ E with txs := E.txs.set t (some (bornX E st.length)) } : EG).cells := by
    unfold EG.cells
    rw [show 2 + t = t + 1 + 1 by omega, show 2 + (t + 1) = (t + 1) + 1 + 1 by omega]
    simp only [List.take_succ_cons, List.drop_succ_cons, List.cons_append, List.map_set]
    congr 2
    rw [List.set_eq_take_append_cons_drop, if_pos (by simp; omega)]
    rfl
  rw [hce]
  generalize hE' : ({ E with txs := E.txs.set t (some (bornX E st.length)) } : EG) = E'
  have hst : st.set E.id (.cells E'.cells) = st.set E.id (.cells E'.cells) := rfl
  have h0 : (st.set E.id (.cells E'.cells) ++ [Ob.map [], Ob.arr 1 1 [.mp st.length],
      Ob.cells [i64 E.clock, i64 0, .slice .full 0 [], .arr (st.length + 1) 1 1, .sc (.bool false), .sc (.bool false), .slice .full 0 []]])[st.length + 2]? = some (.cells [i64 E.clock, i64 0, .slice .full 0 [], .arr (st.length + 1) 1 1, .sc (.bool false), .sc (.bool false), .slice .full 0 []]) := by
    rw [getElem?_app2 hlt (by omega), show st.length + 2 - st.length = 2 by omega]; rfl
  have c1 := conv_ownC (st.length + 2) 2 1 0 h0 (by simp) rfl
  have e1 : (st.set E.id (.cells E'.cells) ++ [Ob.map [], Ob.arr 1 1 [.mp st.length],
      Ob.cells [i64 E.clock, i64 0, .slice .full 0 [], .arr (st.length + 1) 1 1, .sc (.bool false), .sc (.bool false), .slice .full 0 []]]).length = st.length + 3 := by simp
  rw [e1] at c1
  rw [List.set_append_right _ _ (by simp)] at c1
  simp only [List.length_set, show st.length + 2 - st.length = 2 by omega, List.set_cons_succ, List.set_cons_zero, List.append_assoc, List.cons_append, List.nil_append] at c1
  have h1 : (st.set E.id (.cells E'.cells) ++ [Ob.map [], Ob.arr 1 1 [.mp st.length],
      Ob.cells [i64 E.clock, i64 0, .slice (.own (st.length + 3) 0) 1 [], .arr (st.length + 1) 1 1, .sc (.bool false), .sc (.bool false), .slice .full 0 []], Ob.tok 0])[st.length + 2]? = some (.cells [i64 E.clock, i64 0, .slice (.own (st.length + 3) 0) 1 [], .arr (st.length + 1) 1 1, .sc (.bool false), .sc (.bool false), .slice .full 0 []]) := by
    rw [getElem?_app2 hlt (by omega), show st.length + 2 - st.length = 2 by omega]; rfl
  have c2 := conv_as (st.length + 2) 6 (.slice .imm 1 []) h1 (by simp) (fun σ w v hr => rep_nil_imm hr)
  rw [List.set_append_right _ _ (by simp)] at c2
  simp only [List.length_set, show st.length + 2 - st.length = 2 by omega, List.set_cons_succ, List.set_cons_zero] at c2
  refine ⟨_, c1.trans c2, ?_⟩
  generalize hs : st.set E.id (.cells E'.cells) ++ _ = s
  have hsl : s.length = st.length + 4 := by rw [← hs]; simp
  have g : ∀ i, st.length ≤ i → s[i]? = [Ob.map [], Ob.arr 1 1 [.mp st.length], Ob.cells (bornX E st.length).cells, Ob.tok 0][i - st.length]? := by
    intro i hi
    rw [← hs, getElem?_app2 hlt hi]; rfl
  have g0 : ∀ i, i < st.length → i ≠ E.id → s[i]? = st[i]? := by
    intro i hi hn
    rw [← hs, List.getElem?_append_left (by simpa using hi), List.getElem?_set_ne (Ne.symm hn)]
  have hup := eng_upd (s := s) (E' := E') hE ht (some (bornX E st.length)) (by rw [← hE']) (by rw [← hE']) (by rw [← hE'])
    (by rw [← hs, List.getElem?_append_left (by simpa using hlt), List.getElem?_set_self hlt])
    (by rw [g0 _ hvt (Ne.symm hE.vidne), hE.vars, ← hE']) (by rw [← hE']; exact hE.many) (by omega)
    (fun j q1 q2 _ q4 => g0 j q4 q1) (fun x' hx' => by
      cases hx'
      refine ⟨⟨?_, ?_, ?_, rfl, ?_, by simp [bornX], by simp [bornX]⟩, fun j hj => .inr ?_⟩
      · show s[st.length + 2]? = _
        rw [g _ (by omega), show st.length + 2 - st.length = 2 by omega]; rfl
      · show s[st.length + 3]? = _
        rw [g _ (by omega), show st.length + 3 - st.length = 3 by omega]; rfl
      · refine ⟨[.mp st.length], ?_, Nat.le_refl _, rfl⟩
        show s[st.length + 1]? = _
        rw [g _ (by omega), show st.length + 1 - st.length = 1 by omega]; rfl
      · intro i hi
        have : i = 0 := by simpa [bornX] using hi
        subst this
        show s[st.length]? = _
        rw [g _ (by omega), show st.length - st.length = 0 by omega]; rfl
      · simp only [TX.has, bornX, List.mem_cons, List.not_mem_nil, or_false] at hj
        omega)
  refine h s E' hup.1 hup.2 ?_
  rw [← hE']
  simp only [EG.abs, List.map_set]
  rfl

set_option maxHeartbeats 4000000 in
theorem begin_c {st : St} {E : EG} (hE : EngAt st E) (t : Int) (K : SV → St → Prop)
    (h : ∀ s E', EngAt s E' → Fr st E s E' → E'.abs = (beginF E.abs t).2 → K (i64 (beginF E.abs t).1) s) : ACalls Try.prog 12 [.ptr E.id 0, i64 t] K st := by
  have f := cells_facts hE.cells
  have hlt1 := lt_of_get hE.cells
  have hlen := cells_len E hE.len
  have hbeg : beginF E.abs t = if 0 ≤ t ∧ t < 8 ∧ (E.txs[t.toNat]?).join.isNone = true then (0, { E.abs with txs := E.abs.txs.set t.toNat (some ⟨E.clock, 0, [], [fun _ => none], false, false, []⟩) }) else (1, E.abs) := by
    unfold beginF; rw [abs_get]; simp only [Option.isNone_map]; rfl
  by_cases c : 0 ≤ t ∧ t < 8
  · have c1 : (t < 0) = False := eq_false (by omega)
    have c2 : (8 ≤ t) = False := eq_false (by omega)
    have c3 : t < ((8 : Nat) : Int) := c.2
    obtain ⟨o, ho, hd⟩ := hE.txs_get (t := t.toNat) (by omega)
    cases o with
    | some x =>
      have hb : beginF E.abs t = (1, E.abs) := by rw [hbeg, if_neg]; rintro ⟨_, _, q⟩; rw [ho] at q; cases q
      rw [hb] at h
      refine acalls_go_pure [] Try.func12 rfl Try.results12 Try.ntmps12 ?_
      simp only [go_sem, reduceCtorEq, Nat.reduceAdd, Nat.reduceMul, Nat.reduceLeDiff, Nat.reduceLT, Int.reduceLE, Int.reduceLT, Int.reduceEq, Nat.reduceBEq, Nat.reduceEqDiff, f.1, f.2.1, f.2.2, c1, c2, c.1, c3, hd, Nat.mul_one, txSV]
      exact fin_sc (h st E hE (Fr.refl _ _) rfl)
    | none =>
      have hb : beginF E.abs t = (0, { E.abs with txs := E.abs.txs.set t.toNat (some ⟨E.clock, 0, [], [fun _ => none], false, false, []⟩) }) := by
        rw [hbeg, if_pos ⟨c.1, c.2, by rw [ho]; rfl⟩]
      rw [hb] at h
      refine acalls_conv ?_
      refine acalls_go (M := [29, 1000027]) Try.func12 rfl Try.results12 Try.ntmps12 ?_
      have hcl : E.cells.drop 0 = i64 E.clock :: .arr E.vid E.vver E.vars.length :: E.txs.map txSV := rfl
      have hidx : 2 + t.toNat + 1 ≤ E.cells.length := by omega
      simp only [go_sem, reduceCtorEq, Nat.reduceAdd, Nat.reduceMul, Nat.reduceLeDiff, Nat.reduceLT, Int.reduceLE, Int.reduceLT, Int.reduceEq, Nat.reduceBEq, Nat.reduceEqDiff, f.1, f.2.1, f.2.2, c1, c2, c.1, c3, hd, Nat.mul_one, txSV]
      refine awp_drawD [29, 1000027] [6, 7, 9, 13] [([], st), ([6], st ++ [.map []]), ([6, 7], st ++ [.map [], .arr 1 1 [.mp st.length]]), ([6, 7, 9], st ++ [.map [], .arr 1 1 [.mp st.length], .cells [i64 E.clock, i64 0, .slice .full 0 [], .arr (st.length + 1) 1 1, .sc (.bool false), .sc (.bool false), .slice .full 0 []]]),
        ([6, 7, 9, 13], st.set E.id (.cells (splice E.cells (2 + t.toNat) [.ptr (st.length + 2) 0])) ++ [.map [], .arr 1 1 [.mp st.length], .cells [i64 E.clock, i64 0, .slice .full 0 [], .arr (st.length + 1) 1 1, .sc (.bool false), .sc (.bool false), .slice .full 0 []]])]
        [[[], [6], [6, 7], [6, 7, 9]], [[], [6], [6, 7], [6, 7, 9]], [[], [6], [6, 7]], [[], [6], [6, 7]], [[], [6], [6, 7]], [[], [6], [6, 7]], [[]], [[6]], [[6, 7]], [[6, 7]], [[], [6], [6, 7], [6, 7, 9]], [[], [6], [6, 7], [6, 7, 9]], [[6, 7, 9]], [[6, 7, 9]]] Try.mixed rfl rfl rfl rfl rfl ?_
      refine dD_pA rfl (.ptr E.id 0) (by simp only [go_sem, reduceCtorEq, Nat.reduceAdd, Nat.reduceMul, Nat.reduceLeDiff, Nat.reduceLT, Int.reduceLE, Int.reduceLT, Int.reduceEq, Nat.reduceBEq, Nat.reduceEqDiff, look_c, eqN_nil, eqN_l, eqN_r, eqN_c, forall_cs, forall_nl]) ?_
      refine dD_pA rfl (i64 t) (by simp only [go_sem, reduceCtorEq, Nat.reduceAdd, Nat.reduceMul, Nat.reduceLeDiff, Nat.reduceLT, Int.reduceLE, Int.reduceLT, Int.reduceEq, Nat.reduceBEq, Nat.reduceEqDiff, look_c, eqN_nil, eqN_l, eqN_r, eqN_c, forall_cs, forall_nl]) ?_
      refine dD_pA rfl (.ptr E.id 0) (by simp only [go_sem, reduceCtorEq, Nat.reduceAdd, Nat.reduceMul, Nat.reduceLeDiff, Nat.reduceLT, Int.reduceLE, Int.reduceLT, Int.reduceEq, Nat.reduceBEq, Nat.reduceEqDiff, look_c, eqN_nil, eqN_l, eqN_r, eqN_c, forall_cs, forall_nl]) ?_
      refine dD_pA rfl (.ptr E.id 0) (by simp only [go_sem, reduceCtorEq, Nat.reduceAdd, Nat.reduceMul, Nat.reduceLeDiff, Nat.reduceLT, Int.reduceLE, Int.reduceLT, Int.reduceEq, Nat.reduceBEq, Nat.reduceEqDiff, look_c, eqN_nil, eqN_l, eqN_r, eqN_c, forall_cs, forall_nl]) ?_
      refine dD_pA rfl (.ptr E.id 0) (by simp only [go_sem, reduceCtorEq, Nat.reduceAdd, Nat.reduceMul, Nat.reduceLeDiff, Nat.reduceLT, Int.reduceLE, Int.reduceLT, Int.reduceEq, Nat.reduceBEq, Nat.reduceEqDiff, look_c, eqN_nil, eqN_l, eqN_r, eqN_c, forall_cs, forall_nl]) ?_
      refine dD_pA rfl (i64 E.clock) (by simp only [go_sem, reduceCtorEq, Nat.reduceAdd, Nat.reduceMul, Nat.reduceLeDiff, Nat.reduceLT, Int.reduceLE, Int.reduceLT, Int.reduceEq, Nat.reduceBEq, Nat.reduceEqDiff, look_c, eqN_nil, eqN_l, eqN_r, eqN_c, forall_cs, forall_nl, f.1, f.2.1, f.2.2, EG.cells]) ?_
      refine dD_t1 (d := [6]) rfl rfl (.mp st.length) rfl (by simp only [go_sem, reduceCtorEq, Nat.reduceAdd, Nat.reduceMul, Nat.reduceLeDiff, Nat.reduceLT, Int.reduceLE, Int.reduceLT, Int.reduceEq, Nat.reduceBEq, Nat.reduceEqDiff, look_c, eqN_nil, eqN_l, eqN_r, eqN_c, forall_cs, forall_nl]) ?_
      refine dD_t1 (d := [6, 7]) rfl rfl (.arr (st.length + 1) 1 1) rfl (by simp only [go_sem, reduceCtorEq, Nat.reduceAdd, Nat.reduceMul, Nat.reduceLeDiff, Nat.reduceLT, Int.reduceLE, Int.reduceLT, Int.reduceEq, Nat.reduceBEq, Nat.reduceEqDiff, look_c, eqN_nil, eqN_l, eqN_r, eqN_c, forall_cs, forall_nl]; rfl) ?_
      refine dD_p1 rfl (.agg [i64 E.clock, i64 0, .slice .full 0 [], .arr (st.length + 1) 1 1, .sc (.bool false), .sc (.bool false), .slice .full 0 []]) (by simp only [go_sem, reduceCtorEq, Nat.reduceAdd, Nat.reduceMul, Nat.reduceLeDiff, Nat.reduceLT, Int.reduceLE, Int.reduceLT, Int.reduceEq, Nat.reduceBEq, Nat.reduceEqDiff, look_c, eqN_nil, eqN_l, eqN_r, eqN_c, forall_cs, forall_nl]; refine ⟨_, ?_, rfl⟩; simp only [go_sem, reduceCtorEq, Nat.reduceAdd, Nat.reduceMul, Nat.reduceLeDiff, Nat.reduceLT, Int.reduceLE, Int.reduceLT, Int.reduceEq, Nat.reduceBEq, Nat.reduceEqDiff]; exact ⟨⟨[], by simp⟩, by simp only [go_sem, reduceCtorEq, Nat.reduceAdd, Nat.reduceMul, Nat.reduceLeDiff, Nat.reduceLT, Int.reduceLE, Int.reduceLT, Int.reduceEq, Nat.reduceBEq, Nat.reduceEqDiff]; exact ⟨ids_full0 _ _, by omega, ids_full0 _ _⟩, .inl rfl⟩) ?_
      refine dD_t1 (d := [6, 7, 9]) rfl rfl (.ptr (st.length + 2) 0) rfl (by simp only [go_sem, reduceCtorEq, Nat.reduceAdd, Nat.reduceMul, Nat.reduceLeDiff, Nat.reduceLT, Int.reduceLE, Int.reduceLT, Int.reduceEq, Nat.reduceBEq, Nat.reduceEqDiff, look_c, eqN_nil, eqN_l, eqN_r, eqN_c, forall_cs, forall_nl]) ?_
      refine dD_pA rfl (.ptr E.id 0) (by simp only [go_sem, reduceCtorEq, Nat.reduceAdd, Nat.reduceMul, Nat.reduceLeDiff, Nat.reduceLT, Int.reduceLE, Int.reduceLT, Int.reduceEq, Nat.reduceBEq, Nat.reduceEqDiff, look_c, eqN_nil, eqN_l, eqN_r, eqN_c, forall_cs, forall_nl]) ?_
      refine dD_pA rfl (.ptr E.id 2) (by simp only [go_sem, reduceCtorEq, Nat.reduceAdd, Nat.reduceMul, Nat.reduceLeDiff, Nat.reduceLT, Int.reduceLE, Int.reduceLT, Int.reduceEq, Nat.reduceBEq, Nat.reduceEqDiff, look_c, eqN_nil, eqN_l, eqN_r, eqN_c, forall_cs, forall_nl]) ?_
      refine dD_p1 rfl (.ptr E.id (2 + t.toNat)) (by simp only [go_sem, reduceCtorEq, Nat.reduceAdd, Nat.reduceMul, Nat.reduceLeDiff, Nat.reduceLT, Int.reduceLE, Int.reduceLT, Int.reduceEq, Nat.reduceBEq, Nat.reduceEqDiff, look_c, eqN_nil, eqN_l, eqN_r, eqN_c, forall_cs, forall_nl, c.1, c3, Nat.mul_one]) ?_
      refine dD_t1 (d := [6, 7, 9, 13]) rfl rfl .any rfl (by simp only [go_sem, reduceCtorEq, Nat.reduceAdd, Nat.reduceMul, Nat.reduceLeDiff, Nat.reduceLT, Int.reduceLE, Int.reduceLT, Int.reduceEq, Nat.reduceBEq, Nat.reduceEqDiff, look_c, eqN_nil, eqN_l, eqN_r, eqN_c, forall_cs, forall_nl, f.1, f.2.1, f.2.2]; omega) ?_
      refine dD_end ?_
      simp only [go_sem, reduceCtorEq, Nat.reduceAdd, Nat.reduceMul, Nat.reduceLeDiff, Nat.reduceLT, Int.reduceLE, Int.reduceLT, Int.reduceEq, Nat.reduceBEq, Nat.reduceEqDiff]
      exact begin_end hE (by omega) ho h
  · have hb : beginF E.abs t = (1, E.abs) := by rw [hbeg, if_neg]; rintro ⟨q1, q2, _⟩; exact c ⟨q1, q2⟩
    rw [hb] at h
    refine acalls_go_pure [] Try.func12 rfl Try.results12 Try.ntmps12 ?_
    by_cases c1 : t < 0
    · simp only [go_sem, reduceCtorEq, Nat.reduceAdd, Nat.reduceMul, Nat.reduceLeDiff, Nat.reduceLT, Int.reduceLE, Int.reduceLT, Int.reduceEq, Nat.reduceBEq, Nat.reduceEqDiff, f.1, f.2.1, f.2.2, c1]
      exact fin_sc (h st E hE (Fr.refl _ _) rfl)
    · have c2 : 8 ≤ t := by omega
      simp only [go_sem, reduceCtorEq, Nat.reduceAdd, Nat.reduceMul, Nat.reduceLeDiff, Nat.reduceLT, Int.reduceLE, Int.reduceLT, Int.reduceEq, Nat.reduceBEq, Nat.reduceEqDiff, f.1, f.2.1, f.2.2, c1, c2]
      exact fin_sc (h st E hE (Fr.refl _ _) rfl)

end Go.Proofs
set_option linter.unusedSimpArgs false
set_option maxRecDepth 8000
namespace Go.Proofs
open Go Go.AL

def EP.of (E : EP) (t : Int) : Option TP := if 0 ≤ t ∧ t < 8 then (E.txs[t.toNat]?).join else none
def EP.opn (E : EP) (t : Int) : Option TP := match E.of t with | some x => if x.commits then none else some x | none => none
def EP.is (E : EP) (n : Int) : Bool := decide (0 ≤ n) && decide (n < (E.vars.length : Int))
def EP.put (E : EP) (t : Int) (x : TP) : EP := { E with txs := E.txs.set t.toNat (some x) }

theorem abs_of (E : EG) (t : Int) : E.abs.of t = (E.of t).map TX.abs := by
  unfold EP.of EG.of
  split
  · exact abs_get E _
  · rfl
theorem abs_opn (E : EG) (t : Int) : E.abs.opn t = (E.opn t).map TX.abs := by
  unfold EP.opn EG.opn
  rw [abs_of]
  cases E.of t with
  | none => rfl
  | some x =>
    show (if x.commits then none else some x.abs) = _
    cases hc : x.commits <;> simp [hc]
theorem abs_is (E : EG) (n : Int) : E.abs.is n = E.is n := rfl

/-- The last map of a transaction. -/
def TX.top (x : TX) : Nat := x.mids.getD (x.mids.length - 1) 0

theorem ev_nilmap (env : List SV) : ev env (.const (.map none)) = .sc (.map none) := rfl

theorem last_c {st : St} {x : TX} (hx : TxAt st x) (h1 : 1 ≤ x.mids.length) (h2 : x.mids.length ≤ 100000) (K : SV → St → Prop) (h : K (.mp x.top) st) : ACalls Try.prog 48 [.ptr x.id 0] K st := by
  refine acalls_go_pure [] Try.func48 rfl Try.results48 Try.ntmps48 ?_
  have g := cells_facts hx.cells
  obtain ⟨cs, hp, hle, htk⟩ := hx.parts
  have w := arr_facts hp
  have hm : x.mids.getD (x.mids.length - 1) 0 ∈ x.mids := by simp [List.getD_eq_getElem?_getD, show x.mids.length - 1 < x.mids.length by omega]
  have hlt : x.top < st.length := by
    obtain ⟨es, he⟩ := hx.map_mem hm
    exact lt_of_get he
  have hw1 : IntKind.i64.wrap ((x.mids.length : Int) - 1) = ((x.mids.length - 1 : Nat) : Int) := by rw [IntWalk.i64_in _ (by omega)]; omega
  have hd : cs.drop (x.mids.length - 1) = .mp x.top :: cs.drop x.mids.length := by
    rw [List.drop_eq_getElem_cons (by omega), show x.mids.length - 1 + 1 = x.mids.length by omega]
    congr 1
    have h3 : (cs.take x.mids.length)[x.mids.length - 1]? = (x.mids.map SV.mp)[x.mids.length - 1]? := by rw [htk]
    rw [List.getElem?_take_of_lt (by omega), List.getElem?_eq_getElem (by omega), List.getElem?_map, List.getElem?_eq_getElem (by omega)] at h3
    simp only [Option.map_some, Option.some.injEq] at h3
    rw [h3]
    simp [TX.top, List.getD_eq_getElem?_getD, show x.mids.length - 1 < x.mids.length by omega]
  have hlt3 : ((x.mids.length - 1 : Nat) : Int) < (x.mids.length : Int) := by omega
  simp only [go_sem, reduceCtorEq, Nat.reduceAdd, Nat.reduceMul, Nat.reduceLeDiff, Nat.reduceLT, Int.reduceLE, Int.reduceLT, Int.reduceEq, Nat.reduceBEq, Nat.reduceEqDiff, g.1, g.2.1, g.2.2, TX.cells, w.1, w.2.1, w.2.2.1, w.2.2.2, hw1, hd, hlt3, Nat.mul_one]
  rw [ev_nilmap]
  refine awp_draw [] Try.mixed rfl ?_
  simp only [go_sem, reduceCtorEq, Nat.reduceAdd, Nat.reduceMul, Nat.reduceLeDiff, Nat.reduceLT, Int.reduceLE, Int.reduceLT, Int.reduceEq, Nat.reduceBEq, Nat.reduceEqDiff, g.1, g.2.1, g.2.2, TX.cells, w.1, w.2.1, w.2.2.1, w.2.2.2, hw1, hd, hlt3, Nat.mul_one]
  exact ⟨⟨[], by simp⟩, .mp _ hlt, h⟩

theorem of_opn {E : EG} {t : Int} {x : TX} (h : E.opn t = some x) : t.toNat < 8 ∧ E.txs[t.toNat]? = some (some x) := by
  have h1 := of_some (opn_some h).1
  exact ⟨by omega, h1.2⟩

theorem top_mem {x : TX} (h1 : 1 ≤ x.mids.length) : x.top ∈ x.mids := by simp [TX.top, List.getD_eq_getElem?_getD, show x.mids.length - 1 < x.mids.length by omega]

/-- The last map of a transaction is another one. -/
def TX.setTop (x : TX) (m : PMap) : TX := { x with maps := x.maps.set (x.maps.length - 1) m }
def TX.topM (x : TX) : PMap := x.maps.getD (x.maps.length - 1) []
def TP.top (x : TP) : FM := x.maps.getD (x.maps.length - 1) (fun _ => none)
def TP.setTop (x : TP) (m : FM) : TP := { x with maps := x.maps.set (x.maps.length - 1) m }

theorem top_at {st : St} {x : TX} (hx : TxAt st x) (h1 : 1 ≤ x.mids.length) : st[x.top]? = some (.map (pmEs x.topM)) := by
  have := hx.maps (x.mids.length - 1) (by omega)
  rw [← hx.len] at this
  unfold TX.top
  rw [← hx.len]
  exact this

theorem getD_inj {l : List Nat} (h : l.Nodup) {i j : Nat} (hi : i < l.length) (hj : j < l.length) (e : l.getD i 0 = l.getD j 0) : i = j := by
  simp only [List.getD_eq_getElem?_getD, List.getElem?_eq_getElem hi, List.getElem?_eq_getElem hj, Option.getD_some] at e
  exact (List.getElem_inj h).1 e

theorem TxAt.ne_map {st : St} {x : TX} (hT : TxAt st x) {m : Nat} {es : List (Value × SV)} (hm : st[m]? = some (.map es)) : m ≠ x.id ∧ m ≠ x.rid ∧ m ≠ x.pid := by
  refine ⟨?_, ?_, ?_⟩ <;> rintro rfl
  · rw [hT.cells] at hm; cases hm
  · rw [hT.tok] at hm; cases hm
  · obtain ⟨cs, hp, _⟩ := hT.parts
    rw [hp] at hm; cases hm

theorem eng_map {st : St} {E : EG} (hE : EngAt st E) {t : Nat} (ht : t < 8) {x : TX} (hx : E.txs[t]? = some (some x)) (h1 : 1 ≤ x.mids.length) (m : PMap) (hk : (m.map (·.1)).Nodup) :
    EngAt (st.set x.top (.map (pmEs m))) { E with txs := E.txs.set t (some (x.setTop m)) } ∧ Fr st E (st.set x.top (.map (pmEs m))) { E with txs := E.txs.set t (some (x.setTop m)) } := by
  have hT := hE.tx t x hx
  have hat := top_at hT h1
  have hlt := lt_of_get hat
  have hn := hE.tx_ne hx (j := x.top) (.inr (.inr (.inr (top_mem h1))))
  have hnm := hT.ne_map hat
  have hself : E.txs.set t (some x) = E.txs := by
    refine List.ext_getElem? fun i => ?_
    by_cases e : t = i
    · subst e; rw [List.getElem?_set_self (lt_of_get hx), hx]
    · rw [List.getElem?_set_ne e]
  have hcells : ({ E with txs := E.txs.set t (some (x.setTop m)) } : EG).cells = E.cells := by
    unfold EG.cells
    congr 2
    show (E.txs.set t (some (x.setTop m))).map txSV = _
    rw [List.map_set]
    show (E.txs.map txSV).set t (txSV (some x)) = _
    rw [← List.map_set, hself]
  have g : ∀ j, j ≠ x.top → (st.set x.top (.map (pmEs m)))[j]? = st[j]? := fun j hj => List.getElem?_set_ne (Ne.symm hj)
  refine eng_upd hE ht (some (x.setTop m)) rfl rfl rfl (by rw [hcells, g _ (Ne.symm hn.1)]; exact hE.cells) (by rw [g _ (Ne.symm hn.2)]; exact hE.vars) hE.many (by simp)
    (fun j _ _ q3 _ => g j fun e => q3 x hx (by rw [e]; exact .inr (.inr (.inr (top_mem h1))))) fun x' hx' => ?_
  cases hx'
  refine ⟨⟨(g _ (Ne.symm hnm.1)).trans hT.cells, (g _ (Ne.symm hnm.2.1)).trans hT.tok, by obtain ⟨cs, hp, q⟩ := hT.parts; exact ⟨cs, (g _ (Ne.symm hnm.2.2)).trans hp, q⟩, ?_, fun i hi => ?_, hT.nodup, fun m' hm' => ?_⟩, fun j hj => .inl ⟨x, hx, hj⟩⟩
  · show (x.maps.set _ _).length = _
    rw [List.length_set]; exact hT.len
  · show (st.set x.top _)[x.mids.getD i 0]? = some (.map (pmEs ((x.maps.set (x.maps.length - 1) m).getD i [])))
    have hi' : i < x.mids.length := hi
    have hl := hT.len
    by_cases e : i = x.mids.length - 1
    · have e2 : x.mids.getD i 0 = x.top := by rw [e]; rfl
      rw [e2, List.getElem?_set_self hlt, hl, ← e]
      simp [List.getD_eq_getElem?_getD, show i < x.maps.length by omega]
    · rw [g _ (fun h => e (getD_inj hT.nodup hi' (by omega) h)), hT.maps i hi']
      have e3 : (x.maps.set (x.maps.length - 1) m).getD i [] = x.maps.getD i [] := by
        simp only [List.getD_eq_getElem?_getD]
        rw [List.getElem?_set_ne (show x.maps.length - 1 ≠ i by omega)]
      rw [e3]
  · rcases List.mem_or_eq_of_mem_set hm' with h5 | rfl
    · exact hT.keys _ h5
    · exact hk

theorem TX.abs_top (x : TX) : x.abs.top = pmGet x.topM := by
  unfold TP.top TX.topM TX.abs
  simp only [List.getD_eq_getElem?_getD, List.getElem?_map, List.length_map]
  cases x.maps[x.maps.length - 1]? <;> rfl
theorem TX.abs_setTop (x : TX) (m : PMap) : (x.setTop m).abs = x.abs.setTop (pmGet m) := by
  unfold TX.setTop TP.setTop TX.abs
  simp only [List.map_set, List.length_map]
theorem topM_keys {st : St} {x : TX} (hx : TxAt st x) (h1 : 1 ≤ x.mids.length) : (x.topM.map (·.1)).Nodup := by
  refine hx.keys _ ?_
  unfold TX.topM
  have := hx.len
  simp [List.getD_eq_getElem?_getD, show x.maps.length - 1 < x.maps.length by omega]

def writeF (E : EP) (t n v : Int) : Int × EP := match E.opn t with
  | some x => if E.is n then (0, E.put t (x.setTop (fmPut x.top n v))) else (1, E)
  | none => (1, E)

theorem obIds_pm (n : Nat) (m : PMap) : ObIds n (.map (pmEs m)) := by
  rw [obIds_map]
  intro x hx
  obtain ⟨p, _, rfl⟩ := List.mem_map.1 hx
  exact .sc _

set_option maxHeartbeats 4000000 in
theorem write_c {st : St} {E : EG} (hE : EngAt st E) (hF : Fine E) (t n v : Int) (K : SV → St → Prop)
    (h : ∀ s E', EngAt s E' → Fr st E s E' → E'.abs = (writeF E.abs t n v).2 → K (i64 (writeF E.abs t n v).1) s) : ACalls Try.prog 14 [.ptr E.id 0, i64 t, i64 n, i64 v] K st := by
  have hopn := open_c hE t
  have his := is_c hE n
  have hab := abs_opn E t
  have hai := abs_is E n
  unfold writeF at h
  rw [hab, hai] at h
  cases hx : E.opn t with
  | none =>
    rw [hx] at hopn h
    refine acalls_go_mod [] Try.func14 rfl Try.results14 Try.ntmps14 ?_
    simp only [go_sem, reduceCtorEq, Nat.reduceAdd, Nat.reduceMul, Nat.reduceLeDiff, Nat.reduceLT, Int.reduceLE, Int.reduceLT, Int.reduceEq, Nat.reduceBEq, Nat.reduceEqDiff]
    refine hopn _ ?_
    simp only [txSV, go_sem, reduceCtorEq, Nat.reduceAdd, Nat.reduceMul, Nat.reduceLeDiff, Nat.reduceLT, Int.reduceLE, Int.reduceLT, Int.reduceEq, Nat.reduceBEq, Nat.reduceEqDiff]
    exact fin_one (Mod.refl st) (h st E hE (Fr.refl _ _) rfl)
  | some x =>
    rw [hx] at hopn h
    obtain ⟨ht, htx⟩ := of_opn hx
    have hT := hE.tx _ x htx
    have h1 := hF.one _ x htx
    have h2 := (hF.reads _ x htx).2.2
    cases hb : E.is n with
    | false =>
      rw [hb] at his h
      refine acalls_go_mod [] Try.func14 rfl Try.results14 Try.ntmps14 ?_
      simp only [go_sem, reduceCtorEq, Nat.reduceAdd, Nat.reduceMul, Nat.reduceLeDiff, Nat.reduceLT, Int.reduceLE, Int.reduceLT, Int.reduceEq, Nat.reduceBEq, Nat.reduceEqDiff]
      refine hopn _ ?_
      simp only [txSV, go_sem, reduceCtorEq, Nat.reduceAdd, Nat.reduceMul, Nat.reduceLeDiff, Nat.reduceLT, Int.reduceLE, Int.reduceLT, Int.reduceEq, Nat.reduceBEq, Nat.reduceEqDiff]
      refine his _ ?_
      simp only [txSV, go_sem, reduceCtorEq, Nat.reduceAdd, Nat.reduceMul, Nat.reduceLeDiff, Nat.reduceLT, Int.reduceLE, Int.reduceLT, Int.reduceEq, Nat.reduceBEq, Nat.reduceEqDiff]
      exact fin_one (Mod.refl st) (h st E hE (Fr.refl _ _) rfl)
    | true =>
      rw [hb] at his h
      have hlast := last_c hT h1 h2
      have hput : E.abs.put t (x.setTop (pmPut x.topM n v)).abs = E.abs.put t (x.abs.setTop (fmPut x.abs.top n v)) := by rw [TX.abs_setTop, pmGet_put, TX.abs_top]
      have m := map_facts (top_at hT h1)
      have hi := pm_int x.topM
      have hup := eng_map hE ht htx h1 (pmPut x.topM n v) (pm_keys_put (topM_keys hT h1) n v)
      refine acalls_go_mod [] Try.func14 rfl Try.results14 Try.ntmps14 ?_
      simp only [go_sem, reduceCtorEq, Nat.reduceAdd, Nat.reduceMul, Nat.reduceLeDiff, Nat.reduceLT, Int.reduceLE, Int.reduceLT, Int.reduceEq, Nat.reduceBEq, Nat.reduceEqDiff]
      refine hopn _ ?_
      simp only [txSV, go_sem, reduceCtorEq, Nat.reduceAdd, Nat.reduceMul, Nat.reduceLeDiff, Nat.reduceLT, Int.reduceLE, Int.reduceLT, Int.reduceEq, Nat.reduceBEq, Nat.reduceEqDiff]
      refine his _ ?_
      simp only [txSV, go_sem, reduceCtorEq, Nat.reduceAdd, Nat.reduceMul, Nat.reduceLeDiff, Nat.reduceLT, Int.reduceLE, Int.reduceLT, Int.reduceEq, Nat.reduceBEq, Nat.reduceEqDiff]
      refine hlast _ ?_
      simp only [go_sem, reduceCtorEq, Nat.reduceAdd, Nat.reduceMul, Nat.reduceLeDiff, Nat.reduceLT, Int.reduceLE, Int.reduceLT, Int.reduceEq, Nat.reduceBEq, Nat.reduceEqDiff, m.1]
      rw [put_int Try.amap92 m.2 hi, pm_put]
      exact fin_one ((Mod.refl st).set _ _ (obIds_pm _ _)) (h _ _ hup.1 hup.2 (.trans (by simp only [EG.abs, List.map_set]; rfl) hput))

end Go.Proofs
set_option linter.unusedSimpArgs false
set_option maxRecDepth 8000
namespace Go.Proofs
open Go Go.AL

def partF (E : EP) (t : Int) : Int × EP := match E.opn t with
  | some x => (0, E.put t { x with maps := x.maps ++ [fun _ => none] })
  | none => (1, E)

theorem app_parts {n : Nat} (h : n ≤ 1000000) : AppOk Try.prog 93 93 1 n := appOk_of Try.aelem93 Try.aelem93 Try.asize92 Try.azero92 rfl Try.abytes92 (by omega) h

def EG.setTx (E : EG) (t : Nat) (x : TX) : EG := { E with txs := E.txs.set t (some x) }

theorem set_self {l : List (Option TX)} {t : Nat} {o : Option TX} (h : l[t]? = some o) : l.set t o = l := by
  refine List.ext_getElem? fun i => ?_
  by_cases e : t = i
  · subst e; rw [List.getElem?_set_self (lt_of_get h), h]
  · rw [List.getElem?_set_ne e]

theorem abs_put (E : EG) (t : Int) (x : TX) : (E.setTx t.toNat x).abs = E.abs.put t x.abs := by
  simp only [EG.abs, EG.setTx, List.map_set]; rfl

theorem eng_tx {st s : St} {E : EG} (hE : EngAt st E) {t : Nat} (ht : t < 8) {x : TX} (hx : E.txs[t]? = some (some x)) {x' : TX} (hid : x'.id = x.id) (hlen : st.length ≤ s.length)
    (ho : ∀ j, ¬ x.has j → j < st.length → s[j]? = st[j]?) (hT : TxAt s x') (hh : ∀ j, x'.has j → x.has j ∨ st.length ≤ j) : EngAt s (E.setTx t x') ∧ Fr st E s (E.setTx t x') := by
  have hcells : (E.setTx t x').cells = E.cells := by
    unfold EG.cells
    congr 2
    show (E.txs.set t (some x')).map txSV = _
    rw [List.map_set]
    have : txSV (some x') = txSV (some x) := by simp only [txSV, hid]
    rw [this, ← List.map_set, set_self hx]
  have n1 : ¬ x.has E.id := fun h => (hE.tx_ne hx h).1 rfl
  have n2 : ¬ x.has E.vid := fun h => (hE.tx_ne hx h).2 rfl
  refine eng_upd hE ht (some x') rfl rfl rfl (by rw [hcells, ho _ n1 (lt_of_get hE.cells)]; exact hE.cells) (by rw [ho _ n2 (lt_of_get hE.vars)]; exact hE.vars) hE.many hlen
    (fun j _ _ q3 q4 => ho j (q3 x hx) q4) fun y hy => ?_
  cases hy
  exact ⟨hT, fun j hj => (hh j hj).imp (fun h => ⟨x, hx, h⟩) fun h => h⟩

set_option maxHeartbeats 4000000 in
theorem part_c {st : St} {E : EG} (hE : EngAt st E) (hF : Fine E) (t : Int) (K : SV → St → Prop)
    (h : ∀ s E', EngAt s E' → Fr st E s E' → E'.abs = (partF E.abs t).2 → K (i64 (partF E.abs t).1) s) : ACalls Try.prog 13 [.ptr E.id 0, i64 t] K st := by
  have hopn := open_c hE t
  have hab := abs_opn E t
  unfold partF at h
  rw [hab] at h
  cases hx : E.opn t with
  | none =>
    rw [hx] at hopn h
    refine acalls_go_mod [] Try.func13 rfl Try.results13 Try.ntmps13 ?_
    simp only [go_sem, reduceCtorEq, Nat.reduceAdd, Nat.reduceMul, Nat.reduceLeDiff, Nat.reduceLT, Int.reduceLE, Int.reduceLT, Int.reduceEq, Nat.reduceBEq, Nat.reduceEqDiff]
    refine hopn _ ?_
    simp only [txSV, go_sem, reduceCtorEq, Nat.reduceAdd, Nat.reduceMul, Nat.reduceLeDiff, Nat.reduceLT, Int.reduceLE, Int.reduceLT, Int.reduceEq, Nat.reduceBEq, Nat.reduceEqDiff]
    exact fin_one (Mod.refl st) (h st E hE (Fr.refl _ _) rfl)
  | some x =>
    rw [hx] at hopn h
    obtain ⟨ht, htx⟩ := of_opn hx
    have hT := hE.tx _ x htx
    have h1 := hF.one _ x htx
    have h2 := (hF.reads _ x htx).2.2
    have g := cells_facts hT.cells
    obtain ⟨cs, hp, hle, htk⟩ := hT.parts
    have w := arr_facts hp
    have hlt1 := lt_of_get hT.cells
    have hlt2 := lt_of_get hp
    have hne : x.pid ≠ x.id := by intro e; rw [e, hT.cells] at hp; cases hp
    have happ := app_parts (n := x.mids.length + 1) (by omega)
    refine acalls_go (M := []) Try.func13 rfl Try.results13 Try.ntmps13 ?_
    simp only [go_sem, reduceCtorEq, Nat.reduceAdd, Nat.reduceMul, Nat.reduceLeDiff, Nat.reduceLT, Int.reduceLE, Int.reduceLT, Int.reduceEq, Nat.reduceBEq, Nat.reduceEqDiff]
    refine hopn _ ?_
    simp only [txSV, go_sem, reduceCtorEq, Nat.reduceAdd, Nat.reduceMul, Nat.reduceLeDiff, Nat.reduceLT, Int.reduceLE, Int.reduceLT, Int.reduceEq, Nat.reduceBEq, Nat.reduceEqDiff, g.1, g.2.1, g.2.2, TX.cells, w.1, w.2.1, w.2.2.1, w.2.2.2, htk, Nat.mul_one, hne, hne.symm, List.flatMap_cons, List.flatMap_nil, happ]
    have key := eng_tx (s := (st.set x.pid (.arr (x.pver + 1) 1 (x.mids.map SV.mp ++ [.mp st.length]))).set x.id (.cells { x with pver := x.pver + 1, mids := x.mids ++ [st.length], maps := x.maps ++ [[]] }.cells) ++ [.map []])
      hE ht htx (x' := { x with pver := x.pver + 1, mids := x.mids ++ [st.length], maps := x.maps ++ [[]] }) rfl (by simp) (fun j hj hlt => by
        rw [List.getElem?_append_left (by simpa using hlt), List.getElem?_set_ne (fun e => hj (.inl e.symm)), List.getElem?_set_ne (fun e => hj (.inr (.inr (.inl e.symm))))])
      ⟨by rw [List.getElem?_append_left (by simpa using hlt1), List.getElem?_set_self (by simpa using hlt1)],
       by
        have hlt := lt_of_get hT.tok
        have n1 : x.id ≠ x.rid := fun e => by have := hT.cells; rw [e, hT.tok] at this; cases this
        have n2 : x.pid ≠ x.rid := fun e => by rw [e, hT.tok] at hp; cases hp
        show (_ ++ _)[x.rid]? = _
        rw [List.getElem?_append_left (by simpa using hlt), List.getElem?_set_ne n1, List.getElem?_set_ne n2]
        exact hT.tok,
       ⟨x.mids.map SV.mp ++ [.mp st.length], by
        show (_ ++ _)[x.pid]? = _
        rw [List.getElem?_append_left (by simpa using hlt2), List.getElem?_set_ne hne.symm, List.getElem?_set_self hlt2], by simp, by rw [List.take_of_length_le (by simp)]; simp⟩,
       by simp [hT.len], fun i hi => by
        show (_ ++ _)[(x.mids ++ [st.length]).getD i 0]? = some (Ob.map (pmEs ((x.maps ++ [[]]).getD i [])))
        have hi' : i < x.mids.length + 1 := by simpa using hi
        by_cases e : i = x.mids.length
        · subst e
          have e1 : (x.mids ++ [st.length]).getD x.mids.length 0 = st.length := by simp [List.getD_eq_getElem?_getD]
          have e2 : (x.maps ++ [[]]).getD x.mids.length [] = [] := by simp [List.getD_eq_getElem?_getD, ← hT.len]
          rw [e1, e2]
          rw [List.getElem?_append_right (by simp)]; simp [pmEs]
        · have h5 := hT.maps i (by omega)
          have h6 := hT.ne_map h5
          have e1 : (x.mids ++ [st.length]).getD i 0 = x.mids.getD i 0 := by simp [List.getD_eq_getElem?_getD, List.getElem?_append_left (show i < x.mids.length by omega)]
          have e2 : (x.maps ++ [[]]).getD i [] = x.maps.getD i [] := by simp [List.getD_eq_getElem?_getD, List.getElem?_append_left (show i < x.maps.length by have := hT.len; omega)]
          rw [e1, e2, List.getElem?_append_left (by simpa using lt_of_get h5), List.getElem?_set_ne h6.1.symm, List.getElem?_set_ne h6.2.2.symm]
          exact h5,
       by
        show (x.mids ++ [st.length]).Nodup
        rw [List.nodup_append]
        refine ⟨hT.nodup, by simp, fun a ha b hb => ?_⟩
        simp only [List.mem_singleton] at hb
        subst hb
        obtain ⟨es, he⟩ := hT.map_mem ha
        have := lt_of_get he
        omega,
       fun m hm => by
        rcases List.mem_append.1 hm with h6 | h6
        · exact hT.keys _ h6
        · simp only [List.mem_singleton] at h6
          subst h6; simp⟩
      (fun j hj => by
        rcases hj with hj | hj | hj | hj
        · exact .inl (.inl hj)
        · exact .inl (.inr (.inl hj))
        · exact .inl (.inr (.inr (.inl hj)))
        · rcases List.mem_append.1 hj with h6 | h6
          · exact .inl (.inr (.inr (.inr h6)))
          · simp only [List.mem_singleton] at h6
            exact .inr (by omega))
    have h' : ∀ s E', EngAt s E' → Fr st E s E' → E'.abs = E.abs.put t { x.abs with maps := x.abs.maps ++ [fun _ => none] } → K (.sc (.int .i64 0)) s := h
    have := h' _ _ key.1 key.2 ((abs_put E t _).trans (by simp only [TX.abs, List.map_append]; rfl))
    simpa only [TX.cells, List.length_append, List.length_cons, List.length_nil, Nat.zero_add] using this

end Go.Proofs
set_option linter.unusedSimpArgs false
set_option maxRecDepth 8000
namespace Go.Proofs
open Go Go.AL

theorem pm_getD {S : PMap} {j : Nat} (h : j < S.length) : (pmEs S).getD j (default, .any) = (.int .i64 (S.getD j default).1, i64 (S.getD j default).2) := by
  simp [pmEs, List.getD_eq_getElem?_getD, h]

theorem pmGet_mem {S : PMap} (hk : (S.map (·.1)).Nodup) {j : Nat} (h : j < S.length) : pmGet S (S.getD j default).1 = some (S.getD j default).2 := by
  induction S generalizing j with
  | nil => cases h
  | cons p r ih =>
    simp only [List.map_cons, List.nodup_cons] at hk
    cases j with
    | zero => simp [pmGet]
    | succ j =>
      have hj : j < r.length := by simpa using h
      have hm : (r.getD j default).1 ∈ r.map (·.1) := by
        refine List.mem_map.2 ⟨r.getD j default, ?_, rfl⟩
        simp [List.getD_eq_getElem?_getD, hj]
      have hne : ¬ p.1 = (r.getD j default).1 := fun e => hk.1 (e ▸ hm)
      have := ih hk.2 hj
      simp only [List.getD_cons_succ]
      unfold pmGet at this ⊢
      have hb : (p.1 == (r.getD j default).1) = false := by simpa using hne
      rw [List.find?_cons, hb]
      exact this

theorem pmGet_none {S : PMap} {k : Int} (h : ¬ ∃ j, j < S.length ∧ (S.getD j default).1 = k) : pmGet S k = none := by
  unfold pmGet
  rw [Option.map_eq_none_iff, List.find?_eq_none]
  intro p hp
  obtain ⟨j, hj⟩ := List.getElem?_of_mem hp
  have hlt := (List.getElem?_eq_some_iff.1 hj).1
  simp only [beq_iff_eq]
  intro e
  exact h ⟨j, hlt, by rw [List.getD_eq_getElem?_getD, hj]; exact e⟩

set_option maxHeartbeats 4000000 in
theorem copy_c {st : St} {dst src : Nat} {D S : PMap} (hd : st[dst]? = some (.map (pmEs D))) (hs : st[src]? = some (.map (pmEs S))) (hne : dst ≠ src) (kd : (D.map (·.1)).Nodup) (ks : (S.map (·.1)).Nodup) (K : SV → St → Prop)
    (h : ∀ D', (D'.map (·.1)).Nodup → pmGet D' = (fun k => (pmGet S k).or (pmGet D k)) → K (.tuple []) (st.set dst (.map (pmEs D')))) : ACalls Try.prog 74 [.mp dst, .mp src] K st := by
  have hlt := lt_of_get hd
  have hself : st = st.set dst (.map (pmEs D)) := by
    refine List.ext_getElem? fun i => ?_
    by_cases e : dst = i
    · subst e; rw [List.getElem?_set_self hlt, hd]
    · rw [List.getElem?_set_ne e]
  refine acalls_goA Try.func74 rfl Try.results74 Try.ntmps74 ?_
  refine awp_rangeMap [] (x := 1) (a1 := 6) (a2 := 7) (d1 := 8) (d2 := 9) (d3 := 10) (X := 0) (Y := 1) (mid := src) (es := pmEs S) ⟨rfl, rfl, rfl⟩ ⟨rfl, rfl, rfl⟩ ⟨rfl, rfl, rfl⟩ ⟨rfl, rfl, rfl⟩ ⟨rfl, rfl, rfl⟩ rfl (by decide) (by decide) (by decide) (by simp) rfl hs (by rw [Try.amap92]; rfl)
    (fun it V e s => ∃ D', (D'.map (·.1)).Nodup ∧ (∀ k, ((∃ j, j ∈ V ∧ (S.getD j default).1 = k) → pmGet D' k = pmGet S k) ∧ ((¬ ∃ j, j ∈ V ∧ (S.getD j default).1 = k) → pmGet D' k = pmGet D k)) ∧
      s = st.set dst (.map (pmEs D')) ∧ e = [.mp dst, .mp src, .any, .any, .any, .any, .any, it, .any, .any, .any, .any, .any, .any, .any, .any]) ?_ ?_ ?_ ?_
  · intro it
    refine ⟨_, ?_, D, kd, fun k => ⟨?_, fun _ => rfl⟩, hself, rfl⟩
    · show LeEnv [.mp dst, .mp src, .any, .any, .any, .any, .mp src, it, .any, .any, .any, .any, .any, .any, .any, .any] _
      repeat (first | exact leEnv_nil | refine leEnv_any _ ?_ | refine leEnv_same _ ?_ | refine leEnv_norm _ ?_)
    · rintro ⟨j, hj, _⟩; cases hj
  · rintro it V e s ⟨D', _, _, rfl, rfl⟩
    exact ⟨by rw [List.getElem?_set_ne hne]; exact hs, rfl, rfl⟩
  · rintro it V e s ⟨D', k1, k2, rfl, rfl⟩ hall _ hV
    have key := h D' k1 (by
      funext k
      by_cases c : ∃ j, j ∈ V ∧ (S.getD j default).1 = k
      · rw [(k2 k).1 c]
        obtain ⟨j, hj, rfl⟩ := c
        rw [pmGet_mem ks (by simpa [pmEs] using hV j hj)]; rfl
      · have hn : pmGet S k = none := pmGet_none (by
          rintro ⟨j, hj, e⟩
          exact c ⟨j, hall j (by simpa [pmEs] using hj), e⟩)
        rw [(k2 k).2 c, hn]
        rfl)
    simp only [go_sem, reduceCtorEq, Nat.reduceAdd, Nat.reduceMul, Nat.reduceLeDiff, Nat.reduceLT, Int.reduceLE, Int.reduceLT, Int.reduceEq, Nat.reduceBEq, Nat.reduceEqDiff]
    exact key
  · rintro it V j e s ⟨D', k1, k2, rfl, rfl⟩ hnd hV hj hjV
    have hj' : j < S.length := by simpa [pmEs] using hj
    rw [pm_getD hj']
    have hp := pmGet_mem ks hj'
    generalize hp' : S.getD j default = p at hp
    have m := map_facts (st := st.set dst (.map (pmEs D'))) (List.getElem?_set_self hlt)
    have hi := pm_int D'
    simp only [go_sem, reduceCtorEq, Nat.reduceAdd, Nat.reduceMul, Nat.reduceLeDiff, Nat.reduceLT, Int.reduceLE, Int.reduceLT, Int.reduceEq, Nat.reduceBEq, Nat.reduceEqDiff, m.1, List.set_cons_succ, List.set_cons_zero]
    rw [put_int Try.amap92 m.2 hi, pm_put, List.set_set]
    refine ⟨_, ?_, pmPut D' p.1 p.2, pm_keys_put k1 _ _, fun k => ?_, rfl, rfl⟩
    · repeat (first | exact leEnv_nil | refine leEnv_any _ ?_ | refine leEnv_same _ ?_ | refine leEnv_norm _ ?_)
    · rw [pmGet_put, (show fmPut (pmGet D') p.1 p.2 k = if k = p.1 then some p.2 else pmGet D' k from rfl)]
      constructor
      · rintro ⟨j', hj', e⟩
        by_cases c : k = p.1
        · rw [if_pos c, c, hp]
        · rw [if_neg c]
          refine (k2 k).1 ⟨j', ?_, e⟩
          rcases List.mem_append.1 hj' with h6 | h6
          · exact h6
          · simp only [List.mem_singleton] at h6
            subst h6
            rw [hp'] at e
            exact absurd e.symm c
      · intro hn
        have c : ¬ k = p.1 := fun e => hn ⟨j, by simp, by rw [hp']; exact e.symm⟩
        rw [if_neg c]
        exact (k2 k).2 fun ⟨j', q1, q2⟩ => hn ⟨j', List.mem_append_left _ q1, q2⟩

end Go.Proofs
set_option linter.unusedSimpArgs false
set_option maxRecDepth 8000
namespace Go.Proofs
open Go Go.AL

def fmOver (f g : FM) : FM := fun k => (f k).or (g k)
def TP.drop (x : TP) : TP := { x with maps := x.maps.dropLast }
def TX.cut (x : TX) : TX := { x with mids := x.mids.dropLast, maps := x.maps.dropLast }

def shutF (E : EP) (t : Int) (j : Bool) : Int × EP := match E.opn t with
  | some x => if x.maps.length < 2 then (1, E) else (0, E.put t (if j then x.drop.setTop (fmOver x.top x.drop.top) else x.drop))
  | none => (1, E)

theorem TX.abs_len (x : TX) : x.abs.maps.length = x.maps.length := by simp [TX.abs]
theorem TX.abs_cut (x : TX) : x.cut.abs = x.abs.drop := by simp [TX.abs, TX.cut, TP.drop, List.map_dropLast]

theorem cut_at {st : St} {x : TX} (hT : TxAt st x) : TxAt (st.set x.id (.cells x.cut.cells)) x.cut := by
  have hlt1 := lt_of_get hT.cells
  have n1 : x.id ≠ x.rid := fun e => by have := hT.cells; rw [e, hT.tok] at this; cases this
  have hml := hT.len
  obtain ⟨cs, hp, hle, htk⟩ := hT.parts
  have n2 : x.id ≠ x.pid := fun e => by have := hT.cells; rw [e, hp] at this; cases this
  refine ⟨List.getElem?_set_self hlt1, ?_, ⟨cs, ?_, ?_, ?_⟩, ?_, fun i hi => ?_, ?_, fun m hm => hT.keys m ((List.dropLast_sublist _).subset hm)⟩
  · show (st.set x.id _)[x.rid]? = _
    rw [List.getElem?_set_ne n1]; exact hT.tok
  · show (st.set x.id _)[x.pid]? = _
    rw [List.getElem?_set_ne n2]; exact hp
  · simp [TX.cut]; omega
  · have e1 : x.cut.mids.length = x.mids.length - 1 := by simp [TX.cut]
    rw [e1]
    have : cs.take (x.mids.length - 1) = (cs.take x.mids.length).take (x.mids.length - 1) := by rw [List.take_take]; congr 1; omega
    rw [this, htk, ← List.map_take]
    simp [TX.cut, List.dropLast_eq_take]
  · simp [TX.cut, hml]
  · have hi' : i < x.mids.length - 1 := by simpa [TX.cut] using hi
    have h5 := hT.maps i (by omega)
    have e1 : x.cut.mids.getD i 0 = x.mids.getD i 0 := by
      simp only [TX.cut, List.getD_eq_getElem?_getD]
      rw [List.getElem?_dropLast, if_pos (by omega)]
    have e2 : x.cut.maps.getD i [] = x.maps.getD i [] := by
      simp only [TX.cut, List.getD_eq_getElem?_getD]
      rw [List.getElem?_dropLast, if_pos (by omega)]
    rw [e1, e2, List.getElem?_set_ne (hT.ne_map h5).1.symm]
    exact h5
  · exact hT.nodup.sublist (List.dropLast_sublist _)

theorem cut_eng {st : St} {E : EG} (hE : EngAt st E) {t : Nat} (ht : t < 8) {x : TX} (hx : E.txs[t]? = some (some x)) :
    EngAt (st.set x.id (.cells x.cut.cells)) (E.setTx t x.cut) ∧ Fr st E (st.set x.id (.cells x.cut.cells)) (E.setTx t x.cut) := by
  refine eng_tx hE ht hx rfl (by simp) (fun j hj _ => List.getElem?_set_ne (fun e => hj (.inl e.symm))) (cut_at (hE.tx _ _ hx)) fun j hj => .inl ?_
  rcases hj with hj | hj | hj | hj
  · exact .inl hj
  · exact .inr (.inl hj)
  · exact .inr (.inr (.inl hj))
  · exact .inr (.inr (.inr ((List.dropLast_sublist _).subset hj)))

set_option maxHeartbeats 4000000 in
theorem shut_c {st : St} {E : EG} (hE : EngAt st E) (hF : Fine E) (t : Int) (j : Bool) (K : SV → St → Prop)
    (h : ∀ s E', EngAt s E' → Fr st E s E' → E'.abs = (shutF E.abs t j).2 → K (i64 (shutF E.abs t j).1) s) : ACalls Try.prog 49 [.ptr E.id 0, i64 t, .sc (.bool j)] K st := by
  have hopn := open_c hE t
  have hab := abs_opn E t
  unfold shutF at h
  rw [hab] at h
  cases hx : E.opn t with
  | none =>
    rw [hx] at hopn h
    refine acalls_go (M := []) Try.func49 rfl Try.results49 Try.ntmps49 ?_
    simp only [go_sem, reduceCtorEq, Nat.reduceAdd, Nat.reduceMul, Nat.reduceLeDiff, Nat.reduceLT, Int.reduceLE, Int.reduceLT, Int.reduceEq, Nat.reduceBEq, Nat.reduceEqDiff]
    refine hopn _ ?_
    simp only [txSV, go_sem, reduceCtorEq, Nat.reduceAdd, Nat.reduceMul, Nat.reduceLeDiff, Nat.reduceLT, Int.reduceLE, Int.reduceLT, Int.reduceEq, Nat.reduceBEq, Nat.reduceEqDiff]
    exact h st E hE (Fr.refl _ _) rfl
  | some x =>
    rw [hx] at hopn h
    simp only [Option.map_some, TX.abs_len] at h
    obtain ⟨ht, htx⟩ := of_opn hx
    have hT := hE.tx _ x htx
    have h1 := hF.one _ x htx
    have h2 := (hF.reads _ x htx).2.2
    have hml := hT.len
    have g := cells_facts hT.cells
    have hlt1 := lt_of_get hT.cells
    obtain ⟨cs, hp, hle, htk⟩ := hT.parts
    have w := arr_facts hp
    by_cases c : x.maps.length < 2
    · have c' : ((x.mids.length : Int) < 2) = True := eq_true (by omega)
      rw [if_pos c] at h
      refine acalls_go (M := []) Try.func49 rfl Try.results49 Try.ntmps49 ?_
      simp only [go_sem, reduceCtorEq, Nat.reduceAdd, Nat.reduceMul, Nat.reduceLeDiff, Nat.reduceLT, Int.reduceLE, Int.reduceLT, Int.reduceEq, Nat.reduceBEq, Nat.reduceEqDiff]
      refine hopn _ ?_
      simp only [txSV, go_sem, reduceCtorEq, Nat.reduceAdd, Nat.reduceMul, Nat.reduceLeDiff, Nat.reduceLT, Int.reduceLE, Int.reduceLT, Int.reduceEq, Nat.reduceBEq, Nat.reduceEqDiff, g.1, g.2.1, g.2.2, TX.cells, w.1, w.2.1, w.2.2.1, w.2.2.2, c']
      exact h st E hE (Fr.refl _ _) rfl
    · have c' : ((x.mids.length : Int) < 2) = False := eq_false (by omega)
      rw [if_neg c] at h
      have hlast := last_c hT h1 h2
      have hw1 : IntKind.i64.wrap ((x.mids.length : Int) - 1) = ((x.mids.length - 1 : Nat) : Int) := by rw [IntWalk.i64_in _ (by omega)]; omega
      have hcut : List.set st x.id (.cells [i64 x.start, i64 x.stamp, .slice (.own x.rid x.rver) 1 (x.reads.map i64), .arr x.pid x.pver (x.mids.length - 1), .sc (.bool x.commits), .sc (.bool x.pointed), .slice .imm 1 (x.left.map i64)]) = List.set st x.id (.cells x.cut.cells) := by
        simp only [TX.cells, TX.cut, List.length_dropLast]
      obtain ⟨s1, hs1⟩ : ∃ s1, s1 = List.set st x.id (.cells x.cut.cells) := ⟨_, rfl⟩
      have hT1 := cut_at hT
      have key := cut_eng hE ht htx
      have hx1 : (E.setTx t.toNat x.cut).txs[t.toNat]? = some (some x.cut) := by
        show (E.txs.set _ _)[_]? = _
        rw [List.getElem?_set_self (lt_of_get htx)]
      have h11 : 1 ≤ x.cut.mids.length := by simp [TX.cut]; omega
      have hlast1 := last_c hT1 h11 (by simp [TX.cut]; omega)
      have hat1 := top_at hT1 h11
      have hat0 : (st.set x.id (.cells x.cut.cells))[x.top]? = some (.map (pmEs x.topM)) := by
        have h9 := top_at hT h1
        rw [List.getElem?_set_ne (hT.ne_map h9).1.symm]; exact h9
      have hne : x.cut.top ≠ x.top := by
        intro e
        have e1 : x.cut.top = x.mids.getD (x.mids.length - 2) 0 := by
          simp only [TX.top, TX.cut, List.length_dropLast, List.getD_eq_getElem?_getD]
          rw [List.getElem?_dropLast, if_pos (by omega)]
          rfl
        rw [e1] at e
        have := getD_inj hT.nodup (by omega) (by omega) e
        omega
      have hcopy := copy_c hat1 hat0 hne (topM_keys hT1 h11) (topM_keys hT h1)
      refine acalls_go (M := []) Try.func49 rfl Try.results49 Try.ntmps49 ?_
      simp only [go_sem, reduceCtorEq, Nat.reduceAdd, Nat.reduceMul, Nat.reduceLeDiff, Nat.reduceLT, Int.reduceLE, Int.reduceLT, Int.reduceEq, Nat.reduceBEq, Nat.reduceEqDiff]
      refine hopn _ ?_
      simp only [txSV, go_sem, reduceCtorEq, Nat.reduceAdd, Nat.reduceMul, Nat.reduceLeDiff, Nat.reduceLT, Int.reduceLE, Int.reduceLT, Int.reduceEq, Nat.reduceBEq, Nat.reduceEqDiff, g.1, g.2.1, g.2.2, TX.cells, w.1, w.2.1, w.2.2.1, w.2.2.2, c']
      refine hlast _ ?_
      simp only [go_sem, reduceCtorEq, Nat.reduceAdd, Nat.reduceMul, Nat.reduceLeDiff, Nat.reduceLT, Int.reduceLE, Int.reduceLT, Int.reduceEq, Nat.reduceBEq, Nat.reduceEqDiff]
      refine awp_drawD [] [14] [([], st), ([14], st.set x.id (.cells x.cut.cells))] [[[]], [[]], [[]], [[]], [[]], [[]], [[]], [[]], [[]], [[]], [[]], [[]], [[]], [[]], [[]]] Try.mixed rfl rfl rfl rfl rfl ?_
      refine dD_pA rfl (.ptr x.id 0) (by simp only [go_sem, reduceCtorEq, Nat.reduceAdd, Nat.reduceMul, Nat.reduceLeDiff, Nat.reduceLT, Int.reduceLE, Int.reduceLT, Int.reduceEq, Nat.reduceBEq, Nat.reduceEqDiff, look_c, eqN_nil, eqN_l, eqN_r, eqN_c, forall_cs, forall_nl, txSV]) ?_
      refine dD_pA rfl (.ptr x.id 0) (by simp only [go_sem, reduceCtorEq, Nat.reduceAdd, Nat.reduceMul, Nat.reduceLeDiff, Nat.reduceLT, Int.reduceLE, Int.reduceLT, Int.reduceEq, Nat.reduceBEq, Nat.reduceEqDiff, look_c, eqN_nil, eqN_l, eqN_r, eqN_c, forall_cs, forall_nl, txSV]) ?_
      refine dD_pA rfl (.ptr x.id 0) (by simp only [go_sem, reduceCtorEq, Nat.reduceAdd, Nat.reduceMul, Nat.reduceLeDiff, Nat.reduceLT, Int.reduceLE, Int.reduceLT, Int.reduceEq, Nat.reduceBEq, Nat.reduceEqDiff, look_c, eqN_nil, eqN_l, eqN_r, eqN_c, forall_cs, forall_nl, txSV]) ?_
      refine dD_pA rfl (.ptr x.id 3) (by simp only [go_sem, reduceCtorEq, Nat.reduceAdd, Nat.reduceMul, Nat.reduceLeDiff, Nat.reduceLT, Int.reduceLE, Int.reduceLT, Int.reduceEq, Nat.reduceBEq, Nat.reduceEqDiff, look_c, eqN_nil, eqN_l, eqN_r, eqN_c, forall_cs, forall_nl, txSV]) ?_
      refine dD_pA rfl (.arr x.pid x.pver x.mids.length) (by simp only [go_sem, reduceCtorEq, Nat.reduceAdd, Nat.reduceMul, Nat.reduceLeDiff, Nat.reduceLT, Int.reduceLE, Int.reduceLT, Int.reduceEq, Nat.reduceBEq, Nat.reduceEqDiff, look_c, eqN_nil, eqN_l, eqN_r, eqN_c, forall_cs, forall_nl, txSV, g.1, g.2.1, g.2.2, TX.cells]) ?_
      refine dD_pA rfl (.ptr x.id 0) (by simp only [go_sem, reduceCtorEq, Nat.reduceAdd, Nat.reduceMul, Nat.reduceLeDiff, Nat.reduceLT, Int.reduceLE, Int.reduceLT, Int.reduceEq, Nat.reduceBEq, Nat.reduceEqDiff, look_c, eqN_nil, eqN_l, eqN_r, eqN_c, forall_cs, forall_nl, txSV]) ?_
      refine dD_pA rfl (.ptr x.id 0) (by simp only [go_sem, reduceCtorEq, Nat.reduceAdd, Nat.reduceMul, Nat.reduceLeDiff, Nat.reduceLT, Int.reduceLE, Int.reduceLT, Int.reduceEq, Nat.reduceBEq, Nat.reduceEqDiff, look_c, eqN_nil, eqN_l, eqN_r, eqN_c, forall_cs, forall_nl, txSV]) ?_
      refine dD_pA rfl (.ptr x.id 3) (by simp only [go_sem, reduceCtorEq, Nat.reduceAdd, Nat.reduceMul, Nat.reduceLeDiff, Nat.reduceLT, Int.reduceLE, Int.reduceLT, Int.reduceEq, Nat.reduceBEq, Nat.reduceEqDiff, look_c, eqN_nil, eqN_l, eqN_r, eqN_c, forall_cs, forall_nl, txSV]) ?_
      refine dD_pA rfl (.arr x.pid x.pver x.mids.length) (by simp only [go_sem, reduceCtorEq, Nat.reduceAdd, Nat.reduceMul, Nat.reduceLeDiff, Nat.reduceLT, Int.reduceLE, Int.reduceLT, Int.reduceEq, Nat.reduceBEq, Nat.reduceEqDiff, look_c, eqN_nil, eqN_l, eqN_r, eqN_c, forall_cs, forall_nl, txSV, g.1, g.2.1, g.2.2, TX.cells]) ?_
      refine dD_pA rfl (i64 x.mids.length) (by simp only [go_sem, reduceCtorEq, Nat.reduceAdd, Nat.reduceMul, Nat.reduceLeDiff, Nat.reduceLT, Int.reduceLE, Int.reduceLT, Int.reduceEq, Nat.reduceBEq, Nat.reduceEqDiff, look_c, eqN_nil, eqN_l, eqN_r, eqN_c, forall_cs, forall_nl, txSV, w.1, w.2.1, w.2.2.1, w.2.2.2]) ?_
      refine dD_pA rfl (i64 (x.mids.length - 1 : Nat)) (by simp only [go_sem, reduceCtorEq, Nat.reduceAdd, Nat.reduceMul, Nat.reduceLeDiff, Nat.reduceLT, Int.reduceLE, Int.reduceLT, Int.reduceEq, Nat.reduceBEq, Nat.reduceEqDiff, look_c, eqN_nil, eqN_l, eqN_r, eqN_c, forall_cs, forall_nl, txSV, hw1]) ?_
      refine dD_pA rfl (.arr x.pid x.pver (x.mids.length - 1)) (by simp only [go_sem, reduceCtorEq, Nat.reduceAdd, Nat.reduceMul, Nat.reduceLeDiff, Nat.reduceLT, Int.reduceLE, Int.reduceLT, Int.reduceEq, Nat.reduceBEq, Nat.reduceEqDiff, look_c, eqN_nil, eqN_l, eqN_r, eqN_c, forall_cs, forall_nl, txSV, w.1, w.2.1, w.2.2.1, w.2.2.2]; exact ⟨rfl, by omega⟩) ?_
      refine dD_pA rfl (.ptr x.id 0) (by simp only [go_sem, reduceCtorEq, Nat.reduceAdd, Nat.reduceMul, Nat.reduceLeDiff, Nat.reduceLT, Int.reduceLE, Int.reduceLT, Int.reduceEq, Nat.reduceBEq, Nat.reduceEqDiff, look_c, eqN_nil, eqN_l, eqN_r, eqN_c, forall_cs, forall_nl, txSV]) ?_
      refine dD_pA rfl (.ptr x.id 3) (by simp only [go_sem, reduceCtorEq, Nat.reduceAdd, Nat.reduceMul, Nat.reduceLeDiff, Nat.reduceLT, Int.reduceLE, Int.reduceLT, Int.reduceEq, Nat.reduceBEq, Nat.reduceEqDiff, look_c, eqN_nil, eqN_l, eqN_r, eqN_c, forall_cs, forall_nl, txSV]) ?_
      refine dD_t1 (d := [14]) rfl rfl .any rfl (by simp only [go_sem, reduceCtorEq, Nat.reduceAdd, Nat.reduceMul, Nat.reduceLeDiff, Nat.reduceLT, Int.reduceLE, Int.reduceLT, Int.reduceEq, Nat.reduceBEq, Nat.reduceEqDiff, look_c, eqN_nil, eqN_l, eqN_r, eqN_c, forall_cs, forall_nl, txSV, g.1, g.2.1, g.2.2, TX.cells]; exact hcut) ?_
      refine dD_end ?_
      simp only [go_sem, reduceCtorEq, Nat.reduceAdd, Nat.reduceMul, Nat.reduceLeDiff, Nat.reduceLT, Int.reduceLE, Int.reduceLT, Int.reduceEq, Nat.reduceBEq, Nat.reduceEqDiff, txSV]
      refine ⟨fun hj => ?_, fun hj => ?_⟩
      · refine hlast1 _ ?_
        simp only [go_sem, reduceCtorEq, Nat.reduceAdd, Nat.reduceMul, Nat.reduceLeDiff, Nat.reduceLT, Int.reduceLE, Int.reduceLT, Int.reduceEq, Nat.reduceBEq, Nat.reduceEqDiff]
        refine hcopy _ fun D' k1 k2 => ?_
        simp only [go_sem, reduceCtorEq, Nat.reduceAdd, Nat.reduceMul, Nat.reduceLeDiff, Nat.reduceLT, Int.reduceLE, Int.reduceLT, Int.reduceEq, Nat.reduceBEq, Nat.reduceEqDiff]
        have hup := eng_map key.1 ht hx1 h11 D' k1
        refine h _ _ hup.1 (key.2.trans hup.2) ?_
        rw [hj]
        have e1 : (x.cut.setTop D').abs = x.abs.drop.setTop (fmOver x.abs.top x.abs.drop.top) := by
          rw [TX.abs_setTop, k2, TX.abs_cut, ← TX.abs_top, ← TX.abs_top, TX.abs_cut]; rfl
        show EG.abs { E with txs := (E.txs.set t.toNat (some x.cut)).set t.toNat (some (x.cut.setTop D')) } = E.abs.put t (x.abs.drop.setTop (fmOver x.abs.top x.abs.drop.top))
        rw [List.set_set, ← e1]
        exact abs_put E t _
      · refine h _ _ key.1 key.2 ?_
        rw [hj]
        exact (abs_put E t _).trans (by rw [TX.abs_cut]; rfl)

theorem join_c {st : St} {E : EG} (hE : EngAt st E) (hF : Fine E) (t : Int) (K : SV → St → Prop)
    (h : ∀ s E', EngAt s E' → Fr st E s E' → E'.abs = (shutF E.abs t true).2 → K (i64 (shutF E.abs t true).1) s) : ACalls Try.prog 15 [.ptr E.id 0, i64 t] K st := by
  have hs := shut_c hE hF t true
  refine acalls_go (M := []) Try.func15 rfl Try.results15 Try.ntmps15 ?_
  simp only [go_sem, reduceCtorEq, Nat.reduceAdd, Nat.reduceMul, Nat.reduceLeDiff, Nat.reduceLT, Int.reduceLE, Int.reduceLT, Int.reduceEq, Nat.reduceBEq, Nat.reduceEqDiff]
  refine hs _ fun s E' h1 h2 h3 => ?_
  simp only [go_sem, reduceCtorEq, Nat.reduceAdd, Nat.reduceMul, Nat.reduceLeDiff, Nat.reduceLT, Int.reduceLE, Int.reduceLT, Int.reduceEq, Nat.reduceBEq, Nat.reduceEqDiff]
  exact h s E' h1 h2 h3

theorem undo_c {st : St} {E : EG} (hE : EngAt st E) (hF : Fine E) (t : Int) (K : SV → St → Prop)
    (h : ∀ s E', EngAt s E' → Fr st E s E' → E'.abs = (shutF E.abs t false).2 → K (i64 (shutF E.abs t false).1) s) : ACalls Try.prog 16 [.ptr E.id 0, i64 t] K st := by
  have hs := shut_c hE hF t false
  refine acalls_go (M := []) Try.func16 rfl Try.results16 Try.ntmps16 ?_
  simp only [go_sem, reduceCtorEq, Nat.reduceAdd, Nat.reduceMul, Nat.reduceLeDiff, Nat.reduceLT, Int.reduceLE, Int.reduceLT, Int.reduceEq, Nat.reduceBEq, Nat.reduceEqDiff]
  refine hs _ fun s E' h1 h2 h3 => ?_
  simp only [go_sem, reduceCtorEq, Nat.reduceAdd, Nat.reduceMul, Nat.reduceLeDiff, Nat.reduceLT, Int.reduceLE, Int.reduceLT, Int.reduceEq, Nat.reduceBEq, Nat.reduceEqDiff]
  exact h s E' h1 h2 h3

end Go.Proofs
