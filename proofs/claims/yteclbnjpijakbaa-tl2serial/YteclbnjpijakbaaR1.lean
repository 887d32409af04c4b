/- The reference: has, open, is, look, valid, Valid. -/
import Derived.Test.YteclbnjpijakbaaP1
set_option linter.unusedSimpArgs false
set_option linter.unusedVariables false
set_option maxRecDepth 8000
namespace Go.Proofs
open Go Go.AL

def RP.has (R : RP) (t : Int) : Bool := decide (0 ≤ t) && decide (t < 8) && (R.get t).is
def RP.opn (R : RP) (t : Int) : Bool := R.has t && !(R.get t).commits
def RP.is (R : RP) (n : Int) : Bool := decide (0 ≤ n) && decide (n < (R.vars.length : Int))

theorem rx_drop {xs : List RX} {t : Nat} {y : RX} (h : xs[t]? = some y) {j : Nat} (hj : j ≤ 8) : (xs.flatMap RX.cells).drop (t * 8 + j) = y.cells.drop j ++ (xs.flatMap RX.cells).drop (t * 8 + 8) := flat_drop rx_z h hj
/-- What lies where. -/
theorem rx_all {xs : List RX} {t : Nat} {y : RX} (h : xs[t]? = some y) :
    (xs.flatMap RX.cells).drop (t * 8) = SV.sc (.bool y.x.is) :: i64 y.x.start :: SV.slice (.own y.rid y.rver) 1 (y.x.reads.map i64) :: SV.arr y.pid y.pver y.x.puts.length :: i64 y.x.parts :: SV.sc (.bool y.x.commits) :: i64 y.x.stamp :: i64 y.x.done :: (xs.flatMap RX.cells).drop (t * 8 + 8) ∧
    (xs.flatMap RX.cells).drop (t * 8 + 1) = i64 y.x.start :: SV.slice (.own y.rid y.rver) 1 (y.x.reads.map i64) :: SV.arr y.pid y.pver y.x.puts.length :: i64 y.x.parts :: SV.sc (.bool y.x.commits) :: i64 y.x.stamp :: i64 y.x.done :: (xs.flatMap RX.cells).drop (t * 8 + 8) ∧
    (xs.flatMap RX.cells).drop (t * 8 + 2) = SV.slice (.own y.rid y.rver) 1 (y.x.reads.map i64) :: SV.arr y.pid y.pver y.x.puts.length :: i64 y.x.parts :: SV.sc (.bool y.x.commits) :: i64 y.x.stamp :: i64 y.x.done :: (xs.flatMap RX.cells).drop (t * 8 + 8) ∧
    (xs.flatMap RX.cells).drop (t * 8 + 3) = SV.arr y.pid y.pver y.x.puts.length :: i64 y.x.parts :: SV.sc (.bool y.x.commits) :: i64 y.x.stamp :: i64 y.x.done :: (xs.flatMap RX.cells).drop (t * 8 + 8) ∧
    (xs.flatMap RX.cells).drop (t * 8 + 4) = i64 y.x.parts :: SV.sc (.bool y.x.commits) :: i64 y.x.stamp :: i64 y.x.done :: (xs.flatMap RX.cells).drop (t * 8 + 8) ∧
    (xs.flatMap RX.cells).drop (t * 8 + 5) = SV.sc (.bool y.x.commits) :: i64 y.x.stamp :: i64 y.x.done :: (xs.flatMap RX.cells).drop (t * 8 + 8) ∧
    (xs.flatMap RX.cells).drop (t * 8 + 6) = i64 y.x.stamp :: i64 y.x.done :: (xs.flatMap RX.cells).drop (t * 8 + 8) ∧
    (xs.flatMap RX.cells).drop (t * 8 + 7) = i64 y.x.done :: (xs.flatMap RX.cells).drop (t * 8 + 8) :=
  ⟨rx_drop h (j := 0) (by decide), rx_drop h (j := 1) (by decide), rx_drop h (j := 2) (by decide), rx_drop h (j := 3) (by decide), rx_drop h (j := 4) (by decide), rx_drop h (j := 5) (by decide), rx_drop h (j := 6) (by decide), rx_drop h (j := 7) (by decide)⟩

theorem has_c {st : St} {R : RG} (hR : RefAt st R) (t : Int) (K : SV → St → Prop) (h : K (.sc (.bool (R.abs.has t))) st) : ACalls Try.prog 67 [.ptr R.id 0, i64 t] K st := by
  refine acalls_go_pure [] Try.func67 rfl Try.results67 Try.ntmps67 ?_
  have f := cells_facts hR.cells
  have g := cells_facts hR.txs
  unfold RP.has at h
  by_cases c : 0 ≤ t
  · by_cases c2 : t < 8
    · obtain ⟨y, hy⟩ := hR.get (t := t.toNat) (by omega)
      have d := rx_all hy
      rw [rabs_get hy] at h
      have c3 : t < ((8 : Nat) : Int) := c2
      simp only [c, c2, decide_true, Bool.true_and] at h
      simp only [go_sem, reduceCtorEq, Nat.reduceAdd, Nat.reduceMul, Nat.reduceLeDiff, Nat.reduceLT, Int.reduceLE, Int.reduceLT, Int.reduceEq, Nat.reduceBEq, Nat.reduceEqDiff, f.1, f.2.1, f.2.2, RG.cells, g.1, g.2.1, g.2.2, c, c2, c3, d.1, d.2.1, d.2.2.1, d.2.2.2.1, d.2.2.2.2.1, d.2.2.2.2.2.1, d.2.2.2.2.2.2.1, d.2.2.2.2.2.2.2]
      exact fin_sc h
    · simp only [c, c2, decide_true, decide_false, Bool.true_and, Bool.false_and] at h
      simp only [go_sem, reduceCtorEq, Nat.reduceAdd, Nat.reduceMul, Nat.reduceLeDiff, Nat.reduceLT, Int.reduceLE, Int.reduceLT, Int.reduceEq, Nat.reduceBEq, Nat.reduceEqDiff, f.1, f.2.1, f.2.2, RG.cells, g.1, g.2.1, g.2.2, c, c2]
      exact fin_sc h
  · simp only [c, decide_false, Bool.false_and] at h
    simp only [go_sem, reduceCtorEq, Nat.reduceAdd, Nat.reduceMul, Nat.reduceLeDiff, Nat.reduceLT, Int.reduceLE, Int.reduceLT, Int.reduceEq, Nat.reduceBEq, Nat.reduceEqDiff, f.1, f.2.1, f.2.2, RG.cells, g.1, g.2.1, g.2.2, c]
    exact fin_sc h


theorem ropen_c {st : St} {R : RG} (hR : RefAt st R) (t : Int) (K : SV → St → Prop) (h : K (.sc (.bool (R.abs.opn t))) st) : ACalls Try.prog 77 [.ptr R.id 0, i64 t] K st := by
  refine acalls_go_pure [] Try.func77 rfl Try.results77 Try.ntmps77 ?_
  have f := cells_facts hR.cells
  have g := cells_facts hR.txs
  have hh := has_c hR t
  unfold RP.opn at h
  cases hb : R.abs.has t with
  | false =>
    rw [hb] at hh h
    simp only [go_sem, reduceCtorEq, Nat.reduceAdd, Nat.reduceMul, Nat.reduceLeDiff, Nat.reduceLT, Int.reduceLE, Int.reduceLT, Int.reduceEq, Nat.reduceBEq, Nat.reduceEqDiff]
    refine hh _ ?_
    simp only [go_sem, reduceCtorEq, Nat.reduceAdd, Nat.reduceMul, Nat.reduceLeDiff, Nat.reduceLT, Int.reduceLE, Int.reduceLT, Int.reduceEq, Nat.reduceBEq, Nat.reduceEqDiff]
    exact fin_sc h
  | true =>
    rw [hb] at hh h
    have hb' := hb
    unfold RP.has at hb'
    simp only [Bool.and_eq_true, decide_eq_true_eq] at hb'
    obtain ⟨⟨c, c2⟩, _⟩ := hb'
    obtain ⟨y, hy⟩ := hR.get (t := t.toNat) (by omega)
    have d := rx_all hy
    rw [rabs_get hy] at h
    have c3 : t < ((8 : Nat) : Int) := c2
    simp only [go_sem, reduceCtorEq, Nat.reduceAdd, Nat.reduceMul, Nat.reduceLeDiff, Nat.reduceLT, Int.reduceLE, Int.reduceLT, Int.reduceEq, Nat.reduceBEq, Nat.reduceEqDiff]
    refine hh _ ?_
    simp only [go_sem, reduceCtorEq, Nat.reduceAdd, Nat.reduceMul, Nat.reduceLeDiff, Nat.reduceLT, Int.reduceLE, Int.reduceLT, Int.reduceEq, Nat.reduceBEq, Nat.reduceEqDiff, f.1, f.2.1, f.2.2, RG.cells, g.1, g.2.1, g.2.2, c, c2, c3, d.1, d.2.1, d.2.2.1, d.2.2.2.1, d.2.2.2.2.1, d.2.2.2.2.2.1, d.2.2.2.2.2.2.1, d.2.2.2.2.2.2.2]
    exact fin_sc h

theorem ris_c {st : St} {R : RG} (hR : RefAt st R) (n : Int) (K : SV → St → Prop) (h : K (.sc (.bool (R.abs.is n))) st) : ACalls Try.prog 78 [.ptr R.id 0, i64 n] K st := by
  refine acalls_go_pure [] Try.func78 rfl Try.results78 Try.ntmps78 ?_
  have f := cells_facts hR.cells
  have v := arr_facts hR.vars
  unfold RP.is at h
  rw [show R.abs.vars = R.vars from rfl] at h
  by_cases c : 0 ≤ n
  · simp only [c, decide_true, Bool.true_and] at h
    simp only [go_sem, reduceCtorEq, Nat.reduceAdd, Nat.reduceMul, Nat.reduceLeDiff, Nat.reduceLT, Int.reduceLE, Int.reduceLT, Int.reduceEq, Nat.reduceBEq, Nat.reduceEqDiff, f.1, f.2.1, f.2.2, RG.cells, v.1, v.2.1, v.2.2.1, v.2.2.2, c]
    exact fin_sc h
  · simp only [c, decide_false, Bool.false_and] at h
    simp only [go_sem, reduceCtorEq, Nat.reduceAdd, Nat.reduceMul, Nat.reduceLeDiff, Nat.reduceLT, Int.reduceLE, Int.reduceLT, Int.reduceEq, Nat.reduceBEq, Nat.reduceEqDiff, f.1, f.2.1, f.2.2, RG.cells, c]
    exact fin_sc h

/-- May a var be read? -/
def lookR (t start : Int) (v : TV) : Int := if 0 ≤ v.lock ∧ v.lock ≠ t then 32 else if v.ver > start then 33 else 0

theorem rlook_c {st : St} {R : RG} (hR : RefAt st R) (t n : Int) {y : RX} (hy : R.xs[t.toNat]? = some y) (ht : 0 ≤ t ∧ t < 8) (hn : 0 ≤ n ∧ n < (R.vars.length : Int)) (K : SV → St → Prop) (h : K (i64 (lookR t y.x.start (R.vars.getD n.toNat default))) st) : ACalls Try.prog 79 [.ptr R.id 0, i64 t, i64 n] K st := by
  refine acalls_go_pure [] Try.func79 rfl Try.results79 Try.ntmps79 ?_
  have f := cells_facts hR.cells
  have v := arr_facts hR.vars
  have g := cells_facts hR.txs
  have d := rx_all hy
  have hv := vars_drop (l := R.vars) (n := n.toNat) (by omega)
  have hv1 := vars_drop1 (l := R.vars) (n := n.toNat) (by omega)
  have hv2 := vars_drop2 (l := R.vars) (n := n.toNat) (by omega)
  obtain ⟨z, hz⟩ : ∃ z, R.vars.getD n.toNat default = z := ⟨_, rfl⟩
  rw [hz] at hv hv1 hv2 h
  unfold lookR at h
  have c3 : t < ((8 : Nat) : Int) := ht.2
  by_cases c0 : 0 ≤ z.lock
  · simp only [go_sem, reduceCtorEq, Nat.reduceAdd, Nat.reduceMul, Nat.reduceLeDiff, Nat.reduceLT, Int.reduceLE, Int.reduceLT, Int.reduceEq, Nat.reduceBEq, Nat.reduceEqDiff, f.1, f.2.1, f.2.2, RG.cells, v.1, v.2.1, v.2.2.1, v.2.2.2, hn.1, hn.2, hv, hv1, hv2, c0]
    by_cases c : z.lock = t
    · rw [if_neg (by simp [c])] at h
      refine ⟨fun e => ?_, fun _ => ?_⟩
      · simp [c] at e
      refine awp_draw [] Try.mixed rfl ?_
      simp only [go_sem, reduceCtorEq, Nat.reduceAdd, Nat.reduceMul, Nat.reduceLeDiff, Nat.reduceLT, Int.reduceLE, Int.reduceLT, Int.reduceEq, Nat.reduceBEq, Nat.reduceEqDiff, f.1, f.2.1, f.2.2, RG.cells, v.1, v.2.1, v.2.2.1, v.2.2.2, g.1, g.2.1, g.2.2, d.1, d.2.1, d.2.2.1, d.2.2.2.1, d.2.2.2.2.1, d.2.2.2.2.2.1, d.2.2.2.2.2.2.1, d.2.2.2.2.2.2.2, hn.1, hn.2, hv, hv1, hv2, ht.1, c3]
      by_cases c2 : z.ver > y.x.start
      · rw [if_pos c2] at h
        have c3 : decide (y.x.start < z.ver) = true := by simpa using c2
        exact ⟨fun _ => fin_sc h, fun e => by rw [c3] at e; cases e⟩
      · rw [if_neg c2] at h
        have c3 : decide (y.x.start < z.ver) = false := by simpa using c2
        exact ⟨fun e => (by rw [c3] at e; cases e), fun _ => fin_sc h⟩
    · rw [if_pos ⟨c0, c⟩] at h
      refine ⟨fun _ => fin_sc h, fun e => ?_⟩
      simp [c] at e
  · rw [if_neg (by simp [c0])] at h
    simp only [go_sem, reduceCtorEq, Nat.reduceAdd, Nat.reduceMul, Nat.reduceLeDiff, Nat.reduceLT, Int.reduceLE, Int.reduceLT, Int.reduceEq, Nat.reduceBEq, Nat.reduceEqDiff, f.1, f.2.1, f.2.2, RG.cells, v.1, v.2.1, v.2.2.1, v.2.2.2, hn.1, hn.2, hv, hv1, hv2, c0]
    refine awp_draw [] Try.mixed rfl ?_
    simp only [go_sem, reduceCtorEq, Nat.reduceAdd, Nat.reduceMul, Nat.reduceLeDiff, Nat.reduceLT, Int.reduceLE, Int.reduceLT, Int.reduceEq, Nat.reduceBEq, Nat.reduceEqDiff, f.1, f.2.1, f.2.2, RG.cells, v.1, v.2.1, v.2.2.1, v.2.2.2, g.1, g.2.1, g.2.2, d.1, d.2.1, d.2.2.1, d.2.2.2.1, d.2.2.2.2.1, d.2.2.2.2.2.1, d.2.2.2.2.2.2.1, d.2.2.2.2.2.2.2, hn.1, hn.2, hv, hv1, hv2, ht.1, c3]
    by_cases c2 : z.ver > y.x.start
    · rw [if_pos c2] at h
      have c3 : decide (y.x.start < z.ver) = true := by simpa using c2
      exact ⟨fun _ => fin_sc h, fun e => by rw [c3] at e; cases e⟩
    · rw [if_neg c2] at h
      have c3 : decide (y.x.start < z.ver) = false := by simpa using c2
      exact ⟨fun e => (by rw [c3] at e; cases e), fun _ => fin_sc h⟩

def validR (t start : Int) (vars : List TV) : List Int → Int
  | [] => 0
  | n :: r => if lookR t start (vars.getD n.toNat default) = 0 then validR t start vars r else lookR t start (vars.getD n.toNat default)

theorem rvalid_c {st : St} {R : RG} (hR : RefAt st R) (t : Int) {y : RX} (hy : R.xs[t.toNat]? = some y) (ht : 0 ≤ t ∧ t < 8) (hr : ∀ n ∈ y.x.reads, 0 ≤ n ∧ n < (R.vars.length : Int)) (hl : y.x.reads.length ≤ 100000) (K : SV → St → Prop)
    (h : K (i64 (validR t y.x.start R.vars y.x.reads)) st) : ACalls Try.prog 68 [.ptr R.id 0, i64 t] K st := by
  refine acalls_go_pure [] Try.func68 rfl Try.results68 Try.ntmps68 ?_
  have f := cells_facts hR.cells
  have g := cells_facts hR.txs
  have d := rx_all hy
  have c3 : t < ((8 : Nat) : Int) := ht.2
  simp only [go_sem, reduceCtorEq, Nat.reduceAdd, Nat.reduceMul, Nat.reduceLeDiff, Nat.reduceLT, Int.reduceLE, Int.reduceLT, Int.reduceEq, Nat.reduceBEq, Nat.reduceEqDiff]
  refine awp_rounds [] (fun m e s => ∃ (k : Nat), k + m = y.x.reads.length ∧ validR t y.x.start R.vars y.x.reads = validR t y.x.start R.vars (y.x.reads.drop k) ∧ e = [.ptr R.id 0, i64 t, .any, .any, .any, i64 k, .any, .any, .any, .any, .any, .any, .any, .any, .any, .any, .any, .any, .any, .any, .any, .any, .any, .any, .any, .any, .any, .any, .any, .any, .any, .any, .any, .any, .any, .any, .any] ∧ s = st) (n := y.x.reads.length) ?_ ⟨0, by omega, rfl, rfl, rfl⟩ ?_
  · repeat (first | exact leEnv_nil | refine leEnv_any _ ?_ | refine leEnv_same _ ?_ | refine leEnv_norm _ ?_)
  rintro m e s ⟨k, hkm, hv, rfl, rfl⟩
  by_cases hlt : k < y.x.reads.length
  · have c1 : (k : Int) < (y.x.reads.length : Int) := by omega
    have hw := wrapS k (by omega)
    have hmem : y.x.reads.getD k 0 ∈ y.x.reads := by simp [List.getD_eq_getElem?_getD, hlt]
    have hlk := rlook_c hR t (y.x.reads.getD k 0) hy ht (hr _ hmem)
    rw [drop_i64 hlt, validR] at hv
    obtain ⟨q, hq⟩ : ∃ q, lookR t y.x.start (R.vars.getD (y.x.reads.getD k 0).toNat default) = q := ⟨_, rfl⟩
    rw [hq] at hlk hv
    have c2 : (0 : Int) ≤ (k : Int) := by omega
    by_cases c : q = 0
    · have cb : (q != 0) = false := by simp [c]
      rw [if_pos c] at hv
      simp only [go_sem, reduceCtorEq, Nat.reduceAdd, Nat.reduceMul, Nat.reduceLeDiff, Nat.reduceLT, Int.reduceLE, Int.reduceLT, Int.reduceEq, Nat.reduceBEq, Nat.reduceEqDiff, f.1, f.2.1, f.2.2, RG.cells, g.1, g.2.1, g.2.2, d.1, d.2.1, d.2.2.1, d.2.2.2.1, d.2.2.2.2.1, d.2.2.2.2.2.1, d.2.2.2.2.2.2.1, d.2.2.2.2.2.2.2, ht.1, c3, c1, c2, getD_i64 hlt, Int.toNat_natCast]
      refine hlk _ ?_
      simp only [go_sem, reduceCtorEq, Nat.reduceAdd, Nat.reduceMul, Nat.reduceLeDiff, Nat.reduceLT, Int.reduceLE, Int.reduceLT, Int.reduceEq, Nat.reduceBEq, Nat.reduceEqDiff, cb, hw]
      refine ⟨m - 1, _, by omega, ?_, k + 1, by omega, hv, rfl⟩
      repeat (first | exact leEnv_nil | refine leEnv_any _ ?_ | refine leEnv_same _ ?_ | refine leEnv_norm _ ?_)
    · have cb : (q != 0) = true := by simp [c]
      rw [if_neg c] at hv
      simp only [go_sem, reduceCtorEq, Nat.reduceAdd, Nat.reduceMul, Nat.reduceLeDiff, Nat.reduceLT, Int.reduceLE, Int.reduceLT, Int.reduceEq, Nat.reduceBEq, Nat.reduceEqDiff, f.1, f.2.1, f.2.2, RG.cells, g.1, g.2.1, g.2.2, d.1, d.2.1, d.2.2.1, d.2.2.2.1, d.2.2.2.2.1, d.2.2.2.2.2.1, d.2.2.2.2.2.2.1, d.2.2.2.2.2.2.2, ht.1, c3, c1, c2, getD_i64 hlt, Int.toNat_natCast]
      refine hlk _ ?_
      simp only [go_sem, reduceCtorEq, Nat.reduceAdd, Nat.reduceMul, Nat.reduceLeDiff, Nat.reduceLT, Int.reduceLE, Int.reduceLT, Int.reduceEq, Nat.reduceBEq, Nat.reduceEqDiff, cb]
      rw [← hv]
      exact fin_sc h
  · obtain rfl : k = y.x.reads.length := by omega
    simp only [go_sem, reduceCtorEq, Nat.reduceAdd, Nat.reduceMul, Nat.reduceLeDiff, Nat.reduceLT, Int.reduceLE, Int.reduceLT, Int.reduceEq, Nat.reduceBEq, Nat.reduceEqDiff, f.1, f.2.1, f.2.2, RG.cells, g.1, g.2.1, g.2.2, d.1, d.2.1, d.2.2.1, d.2.2.2.1, d.2.2.2.2.1, d.2.2.2.2.2.1, d.2.2.2.2.2.2.1, d.2.2.2.2.2.2.2, ht.1, c3, Int.lt_irrefl]
    rw [hv, List.drop_length] at h
    exact fin_sc h

theorem rhas_get {R : RP} {t : Int} (h : R.has t = true) : (0 ≤ t ∧ t < 8) ∧ (R.get t).is = true := by
  unfold RP.has at h
  simp only [Bool.and_eq_true, decide_eq_true_eq] at h
  exact h
theorem ropn_get {R : RP} {t : Int} (h : R.opn t = true) : (0 ≤ t ∧ t < 8) ∧ (R.get t).is = true ∧ (R.get t).commits = false := by
  unfold RP.opn at h
  simp only [Bool.and_eq_true, Bool.not_eq_true'] at h
  exact ⟨(rhas_get h.1).1, (rhas_get h.1).2, h.2⟩

theorem RefAt.at {st : St} {R : RG} (h : RefAt st R) {t : Int} (ht : 0 ≤ t ∧ t < 8) : ∃ y, R.xs[t.toNat]? = some y ∧ R.abs.get t = y.x := by
  obtain ⟨y, hy⟩ := h.get (t := t.toNat) (by omega)
  exact ⟨y, hy, rabs_get hy⟩

/-- What is kept of a reference. -/
structure FineR (b : Nat) (R : RP) : Prop where
  reads : ∀ (t : Nat) (x : RT), R.txs[t]? = some x → (∀ n ∈ x.reads, 0 ≤ n ∧ n < (R.vars.length : Int)) ∧ x.reads.length ≤ b
  puts : ∀ (t : Nat) (x : RT), R.txs[t]? = some x → (∀ p ∈ x.puts, 0 ≤ p.n ∧ p.n < (R.vars.length : Int)) ∧ x.puts.length ≤ b
  parts : ∀ (t : Nat) (x : RT), R.txs[t]? = some x → 0 ≤ x.parts ∧ x.parts ≤ b + 1
  clk : 0 ≤ R.clock ∧ R.clock ≤ b
  small : b ≤ 90000

theorem FineR.at {b : Nat} {R : RG} (h : FineR b R.abs) {t : Nat} {y : RX} (hy : R.xs[t]? = some y) : R.abs.txs[t]? = some y.x := by
  show (R.xs.map _)[t]? = _
  rw [List.getElem?_map, hy]; rfl

theorem rValid_c {st : St} {R : RG} (hR : RefAt st R) {b : Nat} (hF : FineR b R.abs) (t : Int) (K : SV → St → Prop) (h : K (i64 (if R.abs.opn t = true then validR t (R.abs.get t).start R.vars (R.abs.get t).reads else 1)) st) : ACalls Try.prog 59 [.ptr R.id 0, i64 t] K st := by
  refine acalls_go_pure [] Try.func59 rfl Try.results59 Try.ntmps59 ?_
  have hof := ropen_c hR t
  cases hb : R.abs.opn t with
  | false =>
    rw [hb] at hof h
    simp only [Bool.false_eq_true, if_false] at h
    simp only [go_sem, reduceCtorEq, Nat.reduceAdd, Nat.reduceMul, Nat.reduceLeDiff, Nat.reduceLT, Int.reduceLE, Int.reduceLT, Int.reduceEq, Nat.reduceBEq, Nat.reduceEqDiff]
    refine hof _ ?_
    simp only [go_sem, reduceCtorEq, Nat.reduceAdd, Nat.reduceMul, Nat.reduceLeDiff, Nat.reduceLT, Int.reduceLE, Int.reduceLT, Int.reduceEq, Nat.reduceBEq, Nat.reduceEqDiff]
    exact fin_sc h
  | true =>
    rw [hb] at hof h
    simp only [if_true] at h
    have ho := ropn_get hb
    obtain ⟨y, hy, hg⟩ := hR.at ho.1
    rw [hg] at h
    have hr := hF.reads _ _ (hF.at hy)
    have hvc := rvalid_c hR t hy ho.1 hr.1 (by have := hF.small; omega)
    simp only [go_sem, reduceCtorEq, Nat.reduceAdd, Nat.reduceMul, Nat.reduceLeDiff, Nat.reduceLT, Int.reduceLE, Int.reduceLT, Int.reduceEq, Nat.reduceBEq, Nat.reduceEqDiff]
    refine hof _ ?_
    simp only [go_sem, reduceCtorEq, Nat.reduceAdd, Nat.reduceMul, Nat.reduceLeDiff, Nat.reduceLT, Int.reduceLE, Int.reduceLT, Int.reduceEq, Nat.reduceBEq, Nat.reduceEqDiff]
    refine hvc _ ?_
    simp only [go_sem, reduceCtorEq, Nat.reduceAdd, Nat.reduceMul, Nat.reduceLeDiff, Nat.reduceLT, Int.reduceLE, Int.reduceLT, Int.reduceEq, Nat.reduceBEq, Nat.reduceEqDiff]
    exact fin_sc h

end Go.Proofs
