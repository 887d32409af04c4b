/- The harness: like: under the relation of engine and reference it says yes. -/
import Derived.Test.YteclbnjpijakbaaW20
import Derived.Test.YteclbnjpijakbaaM6
set_option linter.unusedSimpArgs false
set_option linter.unusedVariables false
set_option maxRecDepth 8000
namespace Go.Proofs
open Go Go.AL

theorem same0_c {st : St} (m : AL.Mode) {l : List Int} (hl : l.length ≤ 1000000) (K : SV → St → Prop) (h : K (.sc (.bool (decide (l = [])))) st) : ACalls Try.prog 32 [.slice m 1 (l.map i64), .slice .full 0 []] K st :=
  acalls_args (args' := [.slice m 1 (l.map i64), .slice .full 1 (([] : List Int).map i64)]) (.cons (SVle.refl _) (.cons (SVle.nil .full 0 1 (.inl rfl)) .nil)) (same_c m .full hl (by simp) K h)

/-- What the relation says of a thread. -/
theorem like_tx {E : EG} {R : RG} (hS : Sim E.abs R.abs) (t : Nat) {o : Option TX} {y : RX} (ho : E.txs[t]? = some o) (hy : R.xs[t]? = some y) : (o = none ∧ y.x = .none) ∨ ∃ x, o = some x ∧ SimX x.abs y.x := by
  have h1 : E.abs.txs[t]? = some (o.map TX.abs) := by
    show (E.txs.map _)[t]? = _
    rw [List.getElem?_map, ho]; rfl
  have h2 : R.abs.txs[t]? = some y.x := by
    show (R.xs.map _)[t]? = _
    rw [List.getElem?_map, hy]; rfl
  have := hS.tx t _ _ h1 h2
  cases o with
  | none => exact .inl ⟨rfl, this⟩
  | some x => exact .inr ⟨x, rfl, this⟩

structure LikeH (b : Nat) (E : EP) (R : RP) : Prop where
  sim : Sim E R
  fine : FineP b E
  fined : FineD b R
  ver : VerI E
  vclk : ∀ v ∈ E.vars, v.ver ≤ E.clock

set_option maxHeartbeats 8000000 in
theorem like_c {st : St} {E : EG} {R : RG} (hB : Both st E R) {b : Nat} (hL : LikeH b E.abs R.abs) (hb : b ≤ 200) (K : SV → St → Prop) (h : K (.sc (.bool true)) st) : ACalls Try.prog 33 [.ptr E.id 0, .ptr R.id 0] K st := by
  refine acalls_go_pure [] Try.func33 rfl Try.results33 Try.ntmps33 ?_
  have hS := hL.sim
  have hE := hB.eng
  have hR := hB.ref
  have hFe := hL.fine.fine hE (by omega)
  have hFr := hL.fined.fine (by omega)
  have f := cells_facts hR.cells
  have g := cells_facts hR.txs
  have v := arr_facts hR.vars
  have hmany := hR.many
  have hvars : E.vars = R.vars := hS.vars
  have hclk := hL.fine.clk
  simp only [go_sem, reduceCtorEq, Nat.reduceAdd, Nat.reduceMul, Nat.reduceLeDiff, Nat.reduceLT, Int.reduceLE, Int.reduceLT, Int.reduceEq, Nat.reduceBEq, Nat.reduceEqDiff]
  refine AWp.mono (Q := fun e env s2 => e = .exit 0 ∧ s2 = st ∧ ∃ x y, env = [.ptr E.id 0, .ptr R.id 0, .any, .any, .any, x, .any, .any, .any, .any, .any, .any, .any, .any, y, .sc (.bool false), .any, .any, .any, .any, .any, .any, .any, .any, .any, .any, .any, .any, .any, .any, .any, .any, .any, .any, .any, .any, .any, .any, .any, .any, .any, .any, .any, .any, .any, .any, .any, .any, .any, .any, .any, .any, .any, .any, .any, .any, .any, .any, .any, .any, .any, .any, .any, .any, .any, .any, .any, .any, .any, .any, .any, .any, .any, .any, .any, .any, .any, .any, .any, .any, .any, .any, .any, .any, .any, .any, .any, .any, .any, .any, .any, .any, .any, .any, .any, .any, .any, .any, .any, .any, .any, .any, .any, .any, .any, .any, .any, .any, .any, .any, .any, .any, .any, .any, .any, .any, .any, .any, .any, .any, .any, .any, .any, .any, .any, .any, .any, .any, .any, .any, .any, .any, .any, .any, .any, .any, .any, .any, .any, .any, .any, .any, .any, .any, .any, .any, .any, .any, .any, .any, .any, .any, .any, .any, .any, .any, .any, .any, .any, .any, .any, .any, .any, .any]) ?_ ?_
  refine awp_rounds [] (fun m e s => ∃ (k : Nat), k + m = 10 ∧ e = [.ptr E.id 0, .ptr R.id 0, .any, .any, .any, i64 ((k : Int) - 1), .any, .any, .any, .any, .any, .any, .any, .any, .any, .any, .any, .any, .any, .any, .any, .any, .any, .any, .any, .any, .any, .any, .any, .any, .any, .any, .any, .any, .any, .any, .any, .any, .any, .any, .any, .any, .any, .any, .any, .any, .any, .any, .any, .any, .any, .any, .any, .any, .any, .any, .any, .any, .any, .any, .any, .any, .any, .any, .any, .any, .any, .any, .any, .any, .any, .any, .any, .any, .any, .any, .any, .any, .any, .any, .any, .any, .any, .any, .any, .any, .any, .any, .any, .any, .any, .any, .any, .any, .any, .any, .any, .any, .any, .any, .any, .any, .any, .any, .any, .any, .any, .any, .any, .any, .any, .any, .any, .any, .any, .any, .any, .any, .any, .any, .any, .any, .any, .any, .any, .any, .any, .any, .any, .any, .any, .any, .any, .any, .any, .any, .any, .any, .any, .any, .any, .any, .any, .any, .any, .any, .any, .any, .any, .any, .any, .any, .any, .any, .any, .any, .any, .any, .any, .any, .any, .any, .any, .any] ∧ s = st) (n := 10) ?_ ⟨0, by omega, rfl, rfl⟩ ?_
  · repeat (first | exact leEnv_nil | refine leEnv_any _ ?_ | refine leEnv_same _ ?_ | refine leEnv_norm _ ?_)
  rintro m e s ⟨k, hkm, rfl, rfl⟩
  obtain ⟨t, ht⟩ : ∃ t : Int, t = (k : Int) - 1 := ⟨_, rfl⟩
  have hw : IntKind.i64.wrap (t + 1) = ((k + 1 : Nat) : Int) - 1 := by rw [IntWalk.i64_in _ (by omega)]; omega
  rw [← ht]
  have hac := active_c hE t
  have hst := start_c hE t
  have hrd := reads_c hE hFe t
  by_cases hk : k < 10
  · have c1 : t ≤ 8 := by omega
    by_cases c : 0 ≤ t ∧ t < 8
    · have c3 : t < ((8 : Nat) : Int) := c.2
      have htn : ((t.toNat : Nat) : Int) = t := by omega
      obtain ⟨o, ho, _⟩ := hE.txs_get (t := t.toNat) (by omega)
      have hof : E.of t = o := by rw [EG.of, if_pos c, ho]; rfl
      obtain ⟨y, hy⟩ := hR.get (t := t.toNat) (by omega)
      have d := rx_all hy
      rw [hof] at hac hst hrd
      rcases like_tx hS t.toNat ho hy with ⟨rfl, hyn⟩ | ⟨x, rfl, hx⟩
      · have hsm := @same0_c s .imm []  (by simp)
        have his : y.x.is = false := by rw [hyn]; rfl
        simp only [go_sem, reduceCtorEq, Nat.reduceAdd, Nat.reduceMul, Nat.reduceLeDiff, Nat.reduceLT, Int.reduceLE, Int.reduceLT, Int.reduceEq, Nat.reduceBEq, Nat.reduceEqDiff, c1, c.1, c.2, c3, f.1, f.2.1, f.2.2, RG.cells, g.1, g.2.1, g.2.2, d.1, d.2.1, d.2.2.1, d.2.2.2.1, d.2.2.2.2.1, d.2.2.2.2.2.1, d.2.2.2.2.2.2.1, d.2.2.2.2.2.2.2, his]
        refine hac _ ?_
        simp only [go_sem, reduceCtorEq, Nat.reduceAdd, Nat.reduceMul, Nat.reduceLeDiff, Nat.reduceLT, Int.reduceLE, Int.reduceLT, Int.reduceEq, Nat.reduceBEq, Nat.reduceEqDiff, c1, c.1, c.2, c3, f.1, f.2.1, f.2.2, RG.cells, g.1, g.2.1, g.2.2, d.1, d.2.1, d.2.2.1, d.2.2.2.1, d.2.2.2.2.1, d.2.2.2.2.2.1, d.2.2.2.2.2.2.1, d.2.2.2.2.2.2.2, his, Option.isSome, bne_self_eq_false]
        refine hrd _ ?_
        simp only [go_sem, reduceCtorEq, Nat.reduceAdd, Nat.reduceMul, Nat.reduceLeDiff, Nat.reduceLT, Int.reduceLE, Int.reduceLT, Int.reduceEq, Nat.reduceBEq, Nat.reduceEqDiff, c1, c.1, c.2, c3, f.1, f.2.1, f.2.2, RG.cells, g.1, g.2.1, g.2.2, d.1, d.2.1, d.2.2.1, d.2.2.2.1, d.2.2.2.2.1, d.2.2.2.2.2.1, d.2.2.2.2.2.2.1, d.2.2.2.2.2.2.2, his, Option.isSome, bne_self_eq_false]
        refine hsm _ ?_
        simp only [go_sem, reduceCtorEq, Nat.reduceAdd, Nat.reduceMul, Nat.reduceLeDiff, Nat.reduceLT, Int.reduceLE, Int.reduceLT, Int.reduceEq, Nat.reduceBEq, Nat.reduceEqDiff, c1, c.1, c.2, c3, f.1, f.2.1, f.2.2, RG.cells, g.1, g.2.1, g.2.2, d.1, d.2.1, d.2.2.1, d.2.2.2.1, d.2.2.2.2.1, d.2.2.2.2.2.1, d.2.2.2.2.2.2.1, d.2.2.2.2.2.2.2, his, Option.isSome, bne_self_eq_false]
        refine hst _ ?_
        simp only [go_sem, reduceCtorEq, Nat.reduceAdd, Nat.reduceMul, Nat.reduceLeDiff, Nat.reduceLT, Int.reduceLE, Int.reduceLT, Int.reduceEq, Nat.reduceBEq, Nat.reduceEqDiff, c1, c.1, c.2, c3, f.1, f.2.1, f.2.2, RG.cells, g.1, g.2.1, g.2.2, d.1, d.2.1, d.2.2.1, d.2.2.2.1, d.2.2.2.2.1, d.2.2.2.2.2.1, d.2.2.2.2.2.2.1, d.2.2.2.2.2.2.2, his, Option.isSome, hw, bne_self_eq_false]
        refine ⟨m - 1, _, by omega, ?_, k + 1, by omega, rfl⟩
        repeat (first | exact leEnv_nil | refine leEnv_any _ ?_ | refine leEnv_same _ ?_ | refine leEnv_norm _ ?_)
      · have hrl := hFe.reads _ x ho
        have hxr : x.reads = y.x.reads := hx.reads
        have hxs : x.start = y.x.start := hx.start
        have his : y.x.is = true := hx.is
        have hsm := @same_c s .imm (.own y.rid y.rver) y.x.reads y.x.reads (by rw [← hxr]; omega) (by rw [← hxr]; omega)
        simp only [decide_true] at hsm
        simp only [hxr, hxs] at hrd hst
        simp only [go_sem, reduceCtorEq, Nat.reduceAdd, Nat.reduceMul, Nat.reduceLeDiff, Nat.reduceLT, Int.reduceLE, Int.reduceLT, Int.reduceEq, Nat.reduceBEq, Nat.reduceEqDiff, c1, c.1, c.2, c3, f.1, f.2.1, f.2.2, RG.cells, g.1, g.2.1, g.2.2, d.1, d.2.1, d.2.2.1, d.2.2.2.1, d.2.2.2.2.1, d.2.2.2.2.2.1, d.2.2.2.2.2.2.1, d.2.2.2.2.2.2.2, his]
        refine hac _ ?_
        simp only [go_sem, reduceCtorEq, Nat.reduceAdd, Nat.reduceMul, Nat.reduceLeDiff, Nat.reduceLT, Int.reduceLE, Int.reduceLT, Int.reduceEq, Nat.reduceBEq, Nat.reduceEqDiff, c1, c.1, c.2, c3, f.1, f.2.1, f.2.2, RG.cells, g.1, g.2.1, g.2.2, d.1, d.2.1, d.2.2.1, d.2.2.2.1, d.2.2.2.2.1, d.2.2.2.2.2.1, d.2.2.2.2.2.2.1, d.2.2.2.2.2.2.2, his, Option.isSome, bne_self_eq_false]
        refine hrd _ ?_
        simp only [go_sem, reduceCtorEq, Nat.reduceAdd, Nat.reduceMul, Nat.reduceLeDiff, Nat.reduceLT, Int.reduceLE, Int.reduceLT, Int.reduceEq, Nat.reduceBEq, Nat.reduceEqDiff, c1, c.1, c.2, c3, f.1, f.2.1, f.2.2, RG.cells, g.1, g.2.1, g.2.2, d.1, d.2.1, d.2.2.1, d.2.2.2.1, d.2.2.2.2.1, d.2.2.2.2.2.1, d.2.2.2.2.2.2.1, d.2.2.2.2.2.2.2, his, Option.isSome, bne_self_eq_false]
        refine hsm _ ?_
        simp only [go_sem, reduceCtorEq, Nat.reduceAdd, Nat.reduceMul, Nat.reduceLeDiff, Nat.reduceLT, Int.reduceLE, Int.reduceLT, Int.reduceEq, Nat.reduceBEq, Nat.reduceEqDiff, c1, c.1, c.2, c3, f.1, f.2.1, f.2.2, RG.cells, g.1, g.2.1, g.2.2, d.1, d.2.1, d.2.2.1, d.2.2.2.1, d.2.2.2.2.1, d.2.2.2.2.2.1, d.2.2.2.2.2.2.1, d.2.2.2.2.2.2.2, his, Option.isSome, bne_self_eq_false]
        refine hst _ ?_
        simp only [go_sem, reduceCtorEq, Nat.reduceAdd, Nat.reduceMul, Nat.reduceLeDiff, Nat.reduceLT, Int.reduceLE, Int.reduceLT, Int.reduceEq, Nat.reduceBEq, Nat.reduceEqDiff, c1, c.1, c.2, c3, f.1, f.2.1, f.2.2, RG.cells, g.1, g.2.1, g.2.2, d.1, d.2.1, d.2.2.1, d.2.2.2.1, d.2.2.2.2.1, d.2.2.2.2.2.1, d.2.2.2.2.2.2.1, d.2.2.2.2.2.2.2, his, Option.isSome, hw, bne_self_eq_false]
        refine ⟨m - 1, _, by omega, ?_, k + 1, by omega, rfl⟩
        repeat (first | exact leEnv_nil | refine leEnv_any _ ?_ | refine leEnv_same _ ?_ | refine leEnv_norm _ ?_)
    · have hof : E.of t = none := by rw [EG.of, if_neg c]
      rw [hof] at hac hst hrd
      have hsm := @same0_c s .imm [] (by simp)
      by_cases c0 : 0 ≤ t
      · have c2 : ¬ t < 8 := fun q => c ⟨c0, q⟩
        simp only [go_sem, reduceCtorEq, Nat.reduceAdd, Nat.reduceMul, Nat.reduceLeDiff, Nat.reduceLT, Int.reduceLE, Int.reduceLT, Int.reduceEq, Nat.reduceBEq, Nat.reduceEqDiff, c1, c0, c2]
        refine hac _ ?_
        simp only [go_sem, reduceCtorEq, Nat.reduceAdd, Nat.reduceMul, Nat.reduceLeDiff, Nat.reduceLT, Int.reduceLE, Int.reduceLT, Int.reduceEq, Nat.reduceBEq, Nat.reduceEqDiff, c1, c0, c2, Option.isSome, bne_self_eq_false]
        refine hrd _ ?_
        simp only [go_sem, reduceCtorEq, Nat.reduceAdd, Nat.reduceMul, Nat.reduceLeDiff, Nat.reduceLT, Int.reduceLE, Int.reduceLT, Int.reduceEq, Nat.reduceBEq, Nat.reduceEqDiff, c1, c0, c2, Option.isSome, bne_self_eq_false]
        refine hsm _ ?_
        simp only [go_sem, reduceCtorEq, Nat.reduceAdd, Nat.reduceMul, Nat.reduceLeDiff, Nat.reduceLT, Int.reduceLE, Int.reduceLT, Int.reduceEq, Nat.reduceBEq, Nat.reduceEqDiff, c1, c0, c2, Option.isSome, bne_self_eq_false]
        refine hst _ ?_
        simp only [go_sem, reduceCtorEq, Nat.reduceAdd, Nat.reduceMul, Nat.reduceLeDiff, Nat.reduceLT, Int.reduceLE, Int.reduceLT, Int.reduceEq, Nat.reduceBEq, Nat.reduceEqDiff, c1, c0, c2, Option.isSome, hw, bne_self_eq_false]
        refine ⟨m - 1, _, by omega, ?_, k + 1, by omega, rfl⟩
        repeat (first | exact leEnv_nil | refine leEnv_any _ ?_ | refine leEnv_same _ ?_ | refine leEnv_norm _ ?_)
      · simp only [go_sem, reduceCtorEq, Nat.reduceAdd, Nat.reduceMul, Nat.reduceLeDiff, Nat.reduceLT, Int.reduceLE, Int.reduceLT, Int.reduceEq, Nat.reduceBEq, Nat.reduceEqDiff, c1, c0]
        refine hac _ ?_
        simp only [go_sem, reduceCtorEq, Nat.reduceAdd, Nat.reduceMul, Nat.reduceLeDiff, Nat.reduceLT, Int.reduceLE, Int.reduceLT, Int.reduceEq, Nat.reduceBEq, Nat.reduceEqDiff, c1, c0, Option.isSome, bne_self_eq_false]
        refine hrd _ ?_
        simp only [go_sem, reduceCtorEq, Nat.reduceAdd, Nat.reduceMul, Nat.reduceLeDiff, Nat.reduceLT, Int.reduceLE, Int.reduceLT, Int.reduceEq, Nat.reduceBEq, Nat.reduceEqDiff, c1, c0, Option.isSome, bne_self_eq_false]
        refine hsm _ ?_
        simp only [go_sem, reduceCtorEq, Nat.reduceAdd, Nat.reduceMul, Nat.reduceLeDiff, Nat.reduceLT, Int.reduceLE, Int.reduceLT, Int.reduceEq, Nat.reduceBEq, Nat.reduceEqDiff, c1, c0, Option.isSome, bne_self_eq_false]
        refine hst _ ?_
        simp only [go_sem, reduceCtorEq, Nat.reduceAdd, Nat.reduceMul, Nat.reduceLeDiff, Nat.reduceLT, Int.reduceLE, Int.reduceLT, Int.reduceEq, Nat.reduceBEq, Nat.reduceEqDiff, c1, c0, Option.isSome, hw, bne_self_eq_false]
        refine ⟨m - 1, _, by omega, ?_, k + 1, by omega, rfl⟩
        repeat (first | exact leEnv_nil | refine leEnv_any _ ?_ | refine leEnv_same _ ?_ | refine leEnv_norm _ ?_)
  · have c1 : ¬ t ≤ 8 := by omega
    simp only [go_sem, reduceCtorEq, Nat.reduceAdd, Nat.reduceMul, Nat.reduceLeDiff, Nat.reduceLT, Int.reduceLE, Int.reduceLT, Int.reduceEq, Nat.reduceBEq, Nat.reduceEqDiff, c1]
    exact ⟨_, _, rfl⟩
  rintro e env s2 ⟨rfl, rfl, x, y, rfl⟩
  have hvl : E.vars.length = R.vars.length := by rw [hvars]
  simp only [go_sem, reduceCtorEq, Nat.reduceAdd, Nat.reduceMul, Nat.reduceLeDiff, Nat.reduceLT, Int.reduceLE, Int.reduceLT, Int.reduceEq, Nat.reduceBEq, Nat.reduceEqDiff, f.1, f.2.1, f.2.2, RG.cells, v.1, v.2.1, v.2.2.1, v.2.2.2]
  refine AWp.mono (Q := fun e env s3 => e = .exit 2 ∧ s3 = s2 ∧ ∃ x y z z1 z2 z3 z4, env = [.ptr E.id 0, .ptr R.id 0, .any, .any, .any, .any, .any, .any, .any, .any, x, .any, .any, .any, .any, .any, .any, .any, .any, .any, .any, .any, .any, .any, .any, .any, .any, .any, .any, .any, .any, .any, .any, .any, .any, .any, .any, .any, .any, .any, .any, .any, .any, .any, .any, .any, .any, .any, .any, .any, .any, .any, .any, .any, .any, .any, .any, .any, .any, .any, .any, .any, .any, .any, .any, .any, .any, .any, .any, .any, y, z, z1, z2, z3, z4, .sc (.bool false), .any, .any, .any, .any, .any, .any, .any, .any, .any, .any, .any, .any, .any, .any, .any, .any, .any, .any, .any, .any, .any, .any, .any, .any, .any, .any, .any, .any, .any, .any, .any, .any, .any, .any, .any, .any, .any, .any, .any, .any, .any, .any, .any, .any, .any, .any, .any, .any, .any, .any, .any, .any, .any, .any, .any, .any, .any, .any, .any, .any, .any, .any, .any, .any, .any, .any, .any, .any, .any, .any, .any, .any, .any, .any, .any, .any, .any, .any, .any, .any, .any, .any, .any, .any, .any, .any, .any]) ?_ ?_
  · refine awp_rounds [] (fun m e s' => ∃ (k : Nat), k + m = R.vars.length + 2 ∧ e = [.ptr E.id 0, .ptr R.id 0, .any, .any, .any, .any, .any, .any, .any, .any, i64 ((k : Int) - 1), .any, .any, .any, .any, .any, .any, .any, .any, .any, .any, .any, .any, .any, .any, .any, .any, .any, .any, .any, .any, .any, .any, .any, .any, .any, .any, .any, .any, .any, .any, .any, .any, .any, .any, .any, .any, .any, .any, .any, .any, .any, .any, .any, .any, .any, .any, .any, .any, .any, .any, .any, .any, .any, .any, .any, .any, .any, .any, .any, .any, .any, .any, .any, .any, .any, .any, .any, .any, .any, .any, .any, .any, .any, .any, .any, .any, .any, .any, .any, .any, .any, .any, .any, .any, .any, .any, .any, .any, .any, .any, .any, .any, .any, .any, .any, .any, .any, .any, .any, .any, .any, .any, .any, .any, .any, .any, .any, .any, .any, .any, .any, .any, .any, .any, .any, .any, .any, .any, .any, .any, .any, .any, .any, .any, .any, .any, .any, .any, .any, .any, .any, .any, .any, .any, .any, .any, .any, .any, .any, .any, .any, .any, .any, .any, .any, .any, .any, .any, .any, .any, .any, .any, .any] ∧ s' = s2) (n := R.vars.length + 2) ?_ ⟨0, by omega, rfl, rfl⟩ ?_
    · repeat (first | exact leEnv_nil | refine leEnv_any _ ?_ | refine leEnv_same _ ?_ | refine leEnv_norm _ ?_)
    rintro m e s' ⟨k, hkm, rfl, rfl⟩
    obtain ⟨n, hn⟩ : ∃ n : Int, n = (k : Int) - 1 := ⟨_, rfl⟩
    have hw : IntKind.i64.wrap (n + 1) = ((k + 1 : Nat) : Int) - 1 := by rw [IntWalk.i64_in _ (by omega)]; omega
    rw [← hn]
    have hval := value_c hE n
    by_cases hk : k < R.vars.length + 2
    · have c1 : n ≤ (R.vars.length : Int) := by omega
      by_cases c : 0 ≤ n ∧ n < (R.vars.length : Int)
      · have his : E.is n = true := by unfold EG.is; simp; omega
        have hvd := vars_drop (l := R.vars) (n := n.toNat) (by omega)
        have hvd1 := vars_drop1 (l := R.vars) (n := n.toNat) (by omega)
        obtain ⟨y, hy⟩ : ∃ y, y = R.vars.getD n.toNat default := ⟨_, rfl⟩
        have hym : y ∈ E.vars := by
          rw [hvars, hy]; simp [List.getD_eq_getElem?_getD, show n.toNat < R.vars.length by omega]
        have hyv := hL.ver.vars y hym
        have hyc := hL.vclk y hym
        have hEc : E.abs.clock = E.clock := rfl
        have hnw1 := newer_c hE n y.ver
        have hnw2 := newer_c hE n (y.ver - 1)
        rw [hvars, ← hy, his] at hval hnw1 hnw2
        rw [← hy] at hvd hvd1
        have e1 : (decide (y.ver < y.ver)) = false := by simp
        have e2 : (decide (y.ver - 1 < y.ver)) = true := by simp; omega
        rw [e1] at hnw1
        rw [e2] at hnw2
        simp only [if_true, Bool.and_false, Bool.and_true] at hval hnw1 hnw2
        have hw2 : IntKind.i64.wrap (y.ver - 1) = y.ver - 1 := by rw [IntWalk.i64_in _ (by omega)]
        have b1 : decide (n < 0) = false := by simp; omega
        have b2 : (n == (R.vars.length : Int)) = false := by simp; omega
        have b3 : (n < 0) = False := eq_false (by omega)
        simp -implicitDefEqProofs (maxSteps := 4000000) only [go_sem, reduceCtorEq, Nat.reduceAdd, Nat.reduceMul, Nat.reduceLeDiff, Nat.reduceLT, Int.reduceLE, Int.reduceLT, Int.reduceEq, Nat.reduceBEq, Nat.reduceEqDiff, c1, f.1, f.2.1, f.2.2, RG.cells, v.1, v.2.1, v.2.2.1, v.2.2.2]
        refine hval _ ?_
        simp -implicitDefEqProofs (maxSteps := 4000000) only [go_sem, reduceCtorEq, Nat.reduceAdd, Nat.reduceMul, Nat.reduceLeDiff, Nat.reduceLT, Int.reduceLE, Int.reduceLT, Int.reduceEq, Nat.reduceBEq, Nat.reduceEqDiff, c1, c.1, c.2, f.1, f.2.1, f.2.2, RG.cells, v.1, v.2.1, v.2.2.1, v.2.2.2, hvd, hvd1, hw2, b1, b2, b3, bne_self_eq_false]
        refine hnw1 _ ?_
        simp -implicitDefEqProofs (maxSteps := 4000000) only [go_sem, reduceCtorEq, Nat.reduceAdd, Nat.reduceMul, Nat.reduceLeDiff, Nat.reduceLT, Int.reduceLE, Int.reduceLT, Int.reduceEq, Nat.reduceBEq, Nat.reduceEqDiff, c1, c.1, c.2, f.1, f.2.1, f.2.2, RG.cells, v.1, v.2.1, v.2.2.1, v.2.2.2, hvd, hvd1, hw2, b1, b2, b3, bne_self_eq_false]
        refine hnw2 _ ?_
        simp -implicitDefEqProofs (maxSteps := 4000000) only [go_sem, reduceCtorEq, Nat.reduceAdd, Nat.reduceMul, Nat.reduceLeDiff, Nat.reduceLT, Int.reduceLE, Int.reduceLT, Int.reduceEq, Nat.reduceBEq, Nat.reduceEqDiff, c1, c.1, c.2, f.1, f.2.1, f.2.2, RG.cells, v.1, v.2.1, v.2.2.1, v.2.2.2, hvd, hvd1, hw2, b1, b2, b3, bne_self_eq_false, hw]
        refine ⟨m - 1, _, by omega, ?_, k + 1, by omega, rfl⟩
        repeat (first | exact leEnv_nil | refine leEnv_any _ ?_ | refine leEnv_same _ ?_ | refine leEnv_norm _ ?_)
      · have his : E.is n = false := by
          unfold EG.is
          rw [hvl]
          by_cases q : 0 ≤ n
          · have : ¬ n < (R.vars.length : Int) := fun r => c ⟨q, r⟩
            simp [this]
          · simp [q]
        have hnw := newer_c hE n (-5)
        rw [his] at hval hnw
        simp only [Bool.false_eq_true, if_false, Bool.false_and] at hval hnw
        by_cases q : 0 ≤ n
        · have b1 : decide (n < 0) = false := by simp; omega
          have b2 : (n == (R.vars.length : Int)) = true := by simp; omega
          have b3 : (n < 0) = False := eq_false (by omega)
          simp -implicitDefEqProofs (maxSteps := 4000000) only [go_sem, reduceCtorEq, Nat.reduceAdd, Nat.reduceMul, Nat.reduceLeDiff, Nat.reduceLT, Int.reduceLE, Int.reduceLT, Int.reduceEq, Nat.reduceBEq, Nat.reduceEqDiff, c1, f.1, f.2.1, f.2.2, RG.cells, v.1, v.2.1, v.2.2.1, v.2.2.2]
          refine hval _ ?_
          simp -implicitDefEqProofs (maxSteps := 4000000) only [go_sem, reduceCtorEq, Nat.reduceAdd, Nat.reduceMul, Nat.reduceLeDiff, Nat.reduceLT, Int.reduceLE, Int.reduceLT, Int.reduceEq, Nat.reduceBEq, Nat.reduceEqDiff, c1, f.1, f.2.1, f.2.2, RG.cells, v.1, v.2.1, v.2.2.1, v.2.2.2, b1, b2, b3, bne_self_eq_false]
          refine hnw _ ?_
          simp -implicitDefEqProofs (maxSteps := 4000000) only [go_sem, reduceCtorEq, Nat.reduceAdd, Nat.reduceMul, Nat.reduceLeDiff, Nat.reduceLT, Int.reduceLE, Int.reduceLT, Int.reduceEq, Nat.reduceBEq, Nat.reduceEqDiff, c1, f.1, f.2.1, f.2.2, RG.cells, v.1, v.2.1, v.2.2.1, v.2.2.2, b1, b2, b3, bne_self_eq_false, hw]
          refine ⟨m - 1, _, by omega, ?_, k + 1, by omega, rfl⟩
          repeat (first | exact leEnv_nil | refine leEnv_any _ ?_ | refine leEnv_same _ ?_ | refine leEnv_norm _ ?_)
        · have b1 : decide (n < 0) = true := by simp; omega
          have b3 : (n < 0) = True := eq_true (by omega)
          simp -implicitDefEqProofs (maxSteps := 4000000) only [go_sem, reduceCtorEq, Nat.reduceAdd, Nat.reduceMul, Nat.reduceLeDiff, Nat.reduceLT, Int.reduceLE, Int.reduceLT, Int.reduceEq, Nat.reduceBEq, Nat.reduceEqDiff, c1, f.1, f.2.1, f.2.2, RG.cells, v.1, v.2.1, v.2.2.1, v.2.2.2]
          refine hval _ ?_
          simp -implicitDefEqProofs (maxSteps := 4000000) only [go_sem, reduceCtorEq, Nat.reduceAdd, Nat.reduceMul, Nat.reduceLeDiff, Nat.reduceLT, Int.reduceLE, Int.reduceLT, Int.reduceEq, Nat.reduceBEq, Nat.reduceEqDiff, c1, f.1, f.2.1, f.2.2, RG.cells, v.1, v.2.1, v.2.2.1, v.2.2.2, b1, b3, bne_self_eq_false]
          refine hnw _ ?_
          simp -implicitDefEqProofs (maxSteps := 4000000) only [go_sem, reduceCtorEq, Nat.reduceAdd, Nat.reduceMul, Nat.reduceLeDiff, Nat.reduceLT, Int.reduceLE, Int.reduceLT, Int.reduceEq, Nat.reduceBEq, Nat.reduceEqDiff, c1, f.1, f.2.1, f.2.2, RG.cells, v.1, v.2.1, v.2.2.1, v.2.2.2, b1, b3, bne_self_eq_false, hw]
          refine ⟨m - 1, _, by omega, ?_, k + 1, by omega, rfl⟩
          repeat (first | exact leEnv_nil | refine leEnv_any _ ?_ | refine leEnv_same _ ?_ | refine leEnv_norm _ ?_)
    · have c1 : ¬ n ≤ (R.vars.length : Int) := by omega
      simp -implicitDefEqProofs (maxSteps := 4000000) only [go_sem, reduceCtorEq, Nat.reduceAdd, Nat.reduceMul, Nat.reduceLeDiff, Nat.reduceLT, Int.reduceLE, Int.reduceLT, Int.reduceEq, Nat.reduceBEq, Nat.reduceEqDiff, c1, f.1, f.2.1, f.2.2, RG.cells, v.1, v.2.1, v.2.2.1, v.2.2.2]
      exact ⟨_, _, _, _, _, _, _, rfl⟩
  rintro e env s3 ⟨rfl, rfl, x, y, z, z1, z2, z3, z4, rfl⟩
  have hwd := sim_words hS hL.fined
  have hwl := words_len (R := R.abs) hFr (by show (R.xs.map _).length = 8; simpa using hR.len) hmany hb
  have hw1 := ewords_c hE hFe (by rw [hwd]; exact hwl)
  have hw2 := rwords_c hR hFr hb
  have hsm := @same_c s3 .imm .imm (wordsR R.abs) (wordsR R.abs) (by omega) (by omega)
  have hck := clock_c hE
  have hcc : E.clock = R.clock := hS.clock
  rw [hwd] at hw1
  rw [hcc] at hck
  simp only [decide_true] at hsm
  simp only [go_sem, reduceCtorEq, Nat.reduceAdd, Nat.reduceMul, Nat.reduceLeDiff, Nat.reduceLT, Int.reduceLE, Int.reduceLT, Int.reduceEq, Nat.reduceBEq, Nat.reduceEqDiff]
  refine hw1 _ ?_
  simp only [go_sem, reduceCtorEq, Nat.reduceAdd, Nat.reduceMul, Nat.reduceLeDiff, Nat.reduceLT, Int.reduceLE, Int.reduceLT, Int.reduceEq, Nat.reduceBEq, Nat.reduceEqDiff]
  refine hw2 _ ?_
  simp only [go_sem, reduceCtorEq, Nat.reduceAdd, Nat.reduceMul, Nat.reduceLeDiff, Nat.reduceLT, Int.reduceLE, Int.reduceLT, Int.reduceEq, Nat.reduceBEq, Nat.reduceEqDiff]
  refine hsm _ ?_
  simp only [go_sem, reduceCtorEq, Nat.reduceAdd, Nat.reduceMul, Nat.reduceLeDiff, Nat.reduceLT, Int.reduceLE, Int.reduceLT, Int.reduceEq, Nat.reduceBEq, Nat.reduceEqDiff]
  refine awp_draw [] Try.mixed rfl ?_
  simp only [go_sem, reduceCtorEq, Nat.reduceAdd, Nat.reduceMul, Nat.reduceLeDiff, Nat.reduceLT, Int.reduceLE, Int.reduceLT, Int.reduceEq, Nat.reduceBEq, Nat.reduceEqDiff, f.1, f.2.1, f.2.2, RG.cells, beq_self_eq_true]
  rw [dg_eff]
  refine ⟨?_, i64 R.clock, fun _ => ?_, ?_⟩
  · simp only [go_sem, reduceCtorEq, Nat.reduceAdd, Nat.reduceMul, Nat.reduceLeDiff, Nat.reduceLT, Int.reduceLE, Int.reduceLT, Int.reduceEq, Nat.reduceBEq, Nat.reduceEqDiff]
  · simp only [go_sem, reduceCtorEq, Nat.reduceAdd, Nat.reduceMul, Nat.reduceLeDiff, Nat.reduceLT, Int.reduceLE, Int.reduceLT, Int.reduceEq, Nat.reduceBEq, Nat.reduceEqDiff]
    exact hck _ ⟨⟨[], by simp⟩, .sc _, .inl rfl⟩
  · simp only [go_sem, reduceCtorEq, Nat.reduceAdd, Nat.reduceMul, Nat.reduceLeDiff, Nat.reduceLT, Int.reduceLE, Int.reduceLT, Int.reduceEq, Nat.reduceBEq, Nat.reduceEqDiff, beq_self_eq_true]
    exact fin_sc h

end Go.Proofs
