/- ParseBrackets. -/
import Derived.Test.YtnjiphlokjfdlaaDoorW42
import Derived.Test.YtnjiphlokjfdlaaDoorP14
set_option linter.unusedSimpArgs false
set_option linter.unusedVariables false
set_option maxRecDepth 8000
namespace Go.AL
/-- The parser ends; what it makes has few kids. -/
theorem program_some {s : Tx} : ∃ n a e, programF s = some (n, a, e) ∧ (e = 0 → Few 3000 n) ∧ (e ≠ 0 → n = nd0) := by
  unfold programF
  cases hl : lexF s with
  | error x =>
    obtain ⟨a, e⟩ := x
    exact ⟨_, _, _, rfl, fun h => absurd h (lexF_err hl), fun _ => rfl⟩
  | ok T =>
    have hlen := lexF_len hl
    obtain ⟨nd, b, e, h1, h2, h3⟩ := parse_ok (lx_tok (lexF_lx hl).1).1
    exact ⟨nd, b, e, h1, fun h => (h2 h).2.few (by omega), h3⟩
theorem few_mono {N M : Nat} {n : Nd} (h : Few N n) (hM : N ≤ M) : Few M n := by
  induction h with
  | mk n h h1 h2 ih => exact .mk n ih (Nat.le_trans h1 hM) (Nat.le_trans h2 hM)
end Go.AL
namespace Go.Proofs
open Go Go.AL
theorem wrapB1 (s : Tx) : (⟨#[100, 111, 32]⟩ ++ ba s : ByteArray) = ba ([100, 111, 32] ++ s) := by
  rw [show (⟨#[100, 111, 32]⟩ : ByteArray) = ba [100, 111, 32] from rfl, ba_app]
theorem wrapB2 (s : Tx) : (⟨#[100, 111, 32, 40]⟩ ++ ba s ++ ⟨#[10, 41]⟩ : ByteArray) = ba ([100, 111, 32, 40] ++ s ++ [10, 41]) := by
  rw [show (⟨#[100, 111, 32, 40]⟩ : ByteArray) = ba [100, 111, 32, 40] from rfl, show (⟨#[10, 41]⟩ : ByteArray) = ba [10, 41] from rfl, ba_app, ba_app]
theorem same_c2 {a b : Nd} (ha : Few 100000 a) (hb : Few 100000 b) {v : Bool} (hv : sameB a b = v) {K : SV → St → Prop} {st : St} (hk : K (.sc (.bool v)) st) : ACalls Tryd.prog 14 [ndSV a, ndSV b] K st := by
  subst hv; exact same_c ha hb hk
theorem parseR3 {s : Tx} {x : ByteArray} {nd : Nd} {a e : Int} (hx : x = ba s) (h : programF s = some (nd, a, e)) {gid : Nat} {m : Int} {K : SV → St → Prop} {st : St} (hg : GAt gid m st) (hz : s.length ≤ 100000) (hk : K (.tuple [ndSV nd, .sc (.int .i64 a), .sc (.int .i64 e)]) st) : ACalls Tryd.prog 9 [.sc (.string x)] K st := parseR2 h hx hg hz hk
set_option maxHeartbeats 4000000 in
/-- Behind the cut. -/
theorem brk_c {gid : Nat} {m : Int} {K : SV → St → Prop} {st : St} (hg : GAt gid m st) {s0 s : Tx} (hs : s = s0.take 300) (hk : K (.sc (.bool true)) st) : ACalls Tryd.prog 6 [.sc (.string (ba s0))] K st := by
  refine acalls_go_pure [] Tryd.func6 rfl Tryd.results6 Tryd.ntmps6 ?_
  obtain ⟨n1, a1, e1, h1, f1, z1⟩ := program_some (s := [100, 111, 32] ++ s)
  obtain ⟨n2, a2, e2, h2, f2, z2⟩ := program_some (s := [100, 111, 32, 40] ++ s ++ [10, 41])
  have hsl : s.length ≤ 300 := by rw [hs]; simp; omega
  have hlaw : e1 = 0 → e2 = 0 → sameB n1 n2 = true := fun x y => by
    subst x; subst y; exact brackets_law (by omega) h1 h2
  have hl1 : ([100, 111, 32] ++ s).length ≤ 100000 := by simp; omega
  have hl2 : ([100, 111, 32, 40] ++ s ++ [10, 41]).length ≤ 100000 := by simp; omega
  by_cases hc : 300 < s0.length
  · by_cases q1 : e1 = 0
    · by_cases q2 : e2 = 0
      ·
        have c1 : decide ((300 : Int) < (s0.length : Int)) = true := by simp; omega
        have hse : s = s0.take (Int.toNat 300 - 0) := hs
        have d1 : (e1 != 0) = false := by simp [q1]
        have d2 : (e2 != 0) = false := by simp [q2]
        simp only [go_sem, reduceCtorEq, Nat.reduceAdd, Nat.reduceMul, Nat.reduceLeDiff, Nat.reduceLT, Int.reduceLE, Int.reduceLT, Int.reduceEq, Nat.reduceBEq, Nat.reduceEqDiff, ba_size, gt_iff_lt, c1, ba_extract]
        refine ⟨⟨by omega, by omega⟩, by rw [← hse]; omega, ?_⟩
        refine parseR3 (by rw [wrapB1, hse]) h1 hg hl1 ?_
        simp only [go_sem, reduceCtorEq, Nat.reduceAdd, Nat.reduceMul, Nat.reduceLeDiff, Nat.reduceLT, Int.reduceLE, Int.reduceLT, Int.reduceEq, Nat.reduceBEq, Nat.reduceEqDiff, ba_size, ba_extract]
        refine ⟨by rw [← hse]; omega, by rw [← hse]; omega, ?_⟩
        first | (unfold ACallsH; simp only [put_some, put_none', ev_tmp, List.set_cons_succ, List.set_cons_zero, List.getD_cons_succ, List.getD_cons_zero]) | skip
        refine parseR3 (by rw [wrapB2, hse]) h2 (gat_app hg) hl2 ?_
        simp only [go_sem, reduceCtorEq, Nat.reduceAdd, Nat.reduceMul, Nat.reduceLeDiff, Nat.reduceLT, Int.reduceLE, Int.reduceLT, Int.reduceEq, Nat.reduceBEq, Nat.reduceEqDiff, d1, d2]
        refine same_c2 (few_mono (f1 q1) (by decide)) (few_mono (f2 q2) (by decide)) (hlaw q1 q2) ?_
        simp only [go_sem, reduceCtorEq, Nat.reduceAdd, Nat.reduceMul, Nat.reduceLeDiff, Nat.reduceLT, Int.reduceLE, Int.reduceLT, Int.reduceEq, Nat.reduceBEq, Nat.reduceEqDiff, d1, d2]
        refine lives_c (gat_app hg) ?_
        simp only [go_sem, reduceCtorEq, Nat.reduceAdd, Nat.reduceMul, Nat.reduceLeDiff, Nat.reduceLT, Int.reduceLE, Int.reduceLT, Int.reduceEq, Nat.reduceBEq, Nat.reduceEqDiff, d1, d2]
        exact fin_pure (ids_scv _ _) hk
      ·
        have c1 : decide ((300 : Int) < (s0.length : Int)) = true := by simp; omega
        have hse : s = s0.take (Int.toNat 300 - 0) := hs
        have d1 : (e1 != 0) = false := by simp [q1]
        have d2 : (e2 != 0) = true := by simp [q2]
        simp only [go_sem, reduceCtorEq, Nat.reduceAdd, Nat.reduceMul, Nat.reduceLeDiff, Nat.reduceLT, Int.reduceLE, Int.reduceLT, Int.reduceEq, Nat.reduceBEq, Nat.reduceEqDiff, ba_size, gt_iff_lt, c1, ba_extract]
        refine ⟨⟨by omega, by omega⟩, by rw [← hse]; omega, ?_⟩
        refine parseR3 (by rw [wrapB1, hse]) h1 hg hl1 ?_
        simp only [go_sem, reduceCtorEq, Nat.reduceAdd, Nat.reduceMul, Nat.reduceLeDiff, Nat.reduceLT, Int.reduceLE, Int.reduceLT, Int.reduceEq, Nat.reduceBEq, Nat.reduceEqDiff, ba_size, ba_extract]
        refine ⟨by rw [← hse]; omega, by rw [← hse]; omega, ?_⟩
        first | (unfold ACallsH; simp only [put_some, put_none', ev_tmp, List.set_cons_succ, List.set_cons_zero, List.getD_cons_succ, List.getD_cons_zero]) | skip
        refine parseR3 (by rw [wrapB2, hse]) h2 (gat_app hg) hl2 ?_
        simp only [go_sem, reduceCtorEq, Nat.reduceAdd, Nat.reduceMul, Nat.reduceLeDiff, Nat.reduceLT, Int.reduceLE, Int.reduceLT, Int.reduceEq, Nat.reduceBEq, Nat.reduceEqDiff, d1, d2]
        refine lives_c (gat_app hg) ?_
        simp only [go_sem, reduceCtorEq, Nat.reduceAdd, Nat.reduceMul, Nat.reduceLeDiff, Nat.reduceLT, Int.reduceLE, Int.reduceLT, Int.reduceEq, Nat.reduceBEq, Nat.reduceEqDiff, d1, d2]
        exact fin_pure (ids_scv _ _) hk
    ·
        have c1 : decide ((300 : Int) < (s0.length : Int)) = true := by simp; omega
        have hse : s = s0.take (Int.toNat 300 - 0) := hs
        have d1 : (e1 != 0) = true := by simp [q1]
        simp only [go_sem, reduceCtorEq, Nat.reduceAdd, Nat.reduceMul, Nat.reduceLeDiff, Nat.reduceLT, Int.reduceLE, Int.reduceLT, Int.reduceEq, Nat.reduceBEq, Nat.reduceEqDiff, ba_size, gt_iff_lt, c1, ba_extract]
        refine ⟨⟨by omega, by omega⟩, by rw [← hse]; omega, ?_⟩
        refine parseR3 (by rw [wrapB1, hse]) h1 hg hl1 ?_
        simp only [go_sem, reduceCtorEq, Nat.reduceAdd, Nat.reduceMul, Nat.reduceLeDiff, Nat.reduceLT, Int.reduceLE, Int.reduceLT, Int.reduceEq, Nat.reduceBEq, Nat.reduceEqDiff, ba_size, ba_extract]
        refine ⟨by rw [← hse]; omega, by rw [← hse]; omega, ?_⟩
        first | (unfold ACallsH; simp only [put_some, put_none', ev_tmp, List.set_cons_succ, List.set_cons_zero, List.getD_cons_succ, List.getD_cons_zero]) | skip
        refine parseR3 (by rw [wrapB2, hse]) h2 (gat_app hg) hl2 ?_
        simp only [go_sem, reduceCtorEq, Nat.reduceAdd, Nat.reduceMul, Nat.reduceLeDiff, Nat.reduceLT, Int.reduceLE, Int.reduceLT, Int.reduceEq, Nat.reduceBEq, Nat.reduceEqDiff, d1]
        cases d2 : e2 != 0 with
        | true =>
          simp only [go_sem, reduceCtorEq, Nat.reduceAdd, Nat.reduceMul, Nat.reduceLeDiff, Nat.reduceLT, Int.reduceLE, Int.reduceLT, Int.reduceEq, Nat.reduceBEq, Nat.reduceEqDiff, d1, d2]
          refine lives_c (gat_app hg) ?_
          simp only [go_sem, reduceCtorEq, Nat.reduceAdd, Nat.reduceMul, Nat.reduceLeDiff, Nat.reduceLT, Int.reduceLE, Int.reduceLT, Int.reduceEq, Nat.reduceBEq, Nat.reduceEqDiff, d1, d2]
          exact fin_pure (ids_scv _ _) hk
        | false =>
          simp only [go_sem, reduceCtorEq, Nat.reduceAdd, Nat.reduceMul, Nat.reduceLeDiff, Nat.reduceLT, Int.reduceLE, Int.reduceLT, Int.reduceEq, Nat.reduceBEq, Nat.reduceEqDiff, d1, d2]
          refine lives_c (gat_app hg) ?_
          simp only [go_sem, reduceCtorEq, Nat.reduceAdd, Nat.reduceMul, Nat.reduceLeDiff, Nat.reduceLT, Int.reduceLE, Int.reduceLT, Int.reduceEq, Nat.reduceBEq, Nat.reduceEqDiff, d1, d2]
          exact fin_pure (ids_scv _ _) hk
  · by_cases q1 : e1 = 0
    · by_cases q2 : e2 = 0
      ·
        have c1 : decide ((300 : Int) < (s0.length : Int)) = false := by simp; omega
        have hse : s = s0 := by rw [hs]; exact List.take_of_length_le (by omega)
        have d1 : (e1 != 0) = false := by simp [q1]
        have d2 : (e2 != 0) = false := by simp [q2]
        simp only [go_sem, reduceCtorEq, Nat.reduceAdd, Nat.reduceMul, Nat.reduceLeDiff, Nat.reduceLT, Int.reduceLE, Int.reduceLT, Int.reduceEq, Nat.reduceBEq, Nat.reduceEqDiff, ba_size, gt_iff_lt, c1, ba_extract]
        refine ⟨by omega, ?_⟩
        refine parseR3 (by rw [wrapB1, hse]) h1 hg hl1 ?_
        simp only [go_sem, reduceCtorEq, Nat.reduceAdd, Nat.reduceMul, Nat.reduceLeDiff, Nat.reduceLT, Int.reduceLE, Int.reduceLT, Int.reduceEq, Nat.reduceBEq, Nat.reduceEqDiff, ba_size, ba_extract]
        refine ⟨by omega, by omega, ?_⟩
        first | (unfold ACallsH; simp only [put_some, put_none', ev_tmp, List.set_cons_succ, List.set_cons_zero, List.getD_cons_succ, List.getD_cons_zero]) | skip
        refine parseR3 (by rw [wrapB2, hse]) h2 (gat_app hg) hl2 ?_
        simp only [go_sem, reduceCtorEq, Nat.reduceAdd, Nat.reduceMul, Nat.reduceLeDiff, Nat.reduceLT, Int.reduceLE, Int.reduceLT, Int.reduceEq, Nat.reduceBEq, Nat.reduceEqDiff, d1, d2]
        refine same_c2 (few_mono (f1 q1) (by decide)) (few_mono (f2 q2) (by decide)) (hlaw q1 q2) ?_
        simp only [go_sem, reduceCtorEq, Nat.reduceAdd, Nat.reduceMul, Nat.reduceLeDiff, Nat.reduceLT, Int.reduceLE, Int.reduceLT, Int.reduceEq, Nat.reduceBEq, Nat.reduceEqDiff, d1, d2]
        refine lives_c (gat_app hg) ?_
        simp only [go_sem, reduceCtorEq, Nat.reduceAdd, Nat.reduceMul, Nat.reduceLeDiff, Nat.reduceLT, Int.reduceLE, Int.reduceLT, Int.reduceEq, Nat.reduceBEq, Nat.reduceEqDiff, d1, d2]
        exact fin_pure (ids_scv _ _) hk
      ·
        have c1 : decide ((300 : Int) < (s0.length : Int)) = false := by simp; omega
        have hse : s = s0 := by rw [hs]; exact List.take_of_length_le (by omega)
        have d1 : (e1 != 0) = false := by simp [q1]
        have d2 : (e2 != 0) = true := by simp [q2]
        simp only [go_sem, reduceCtorEq, Nat.reduceAdd, Nat.reduceMul, Nat.reduceLeDiff, Nat.reduceLT, Int.reduceLE, Int.reduceLT, Int.reduceEq, Nat.reduceBEq, Nat.reduceEqDiff, ba_size, gt_iff_lt, c1, ba_extract]
        refine ⟨by omega, ?_⟩
        refine parseR3 (by rw [wrapB1, hse]) h1 hg hl1 ?_
        simp only [go_sem, reduceCtorEq, Nat.reduceAdd, Nat.reduceMul, Nat.reduceLeDiff, Nat.reduceLT, Int.reduceLE, Int.reduceLT, Int.reduceEq, Nat.reduceBEq, Nat.reduceEqDiff, ba_size, ba_extract]
        refine ⟨by omega, by omega, ?_⟩
        first | (unfold ACallsH; simp only [put_some, put_none', ev_tmp, List.set_cons_succ, List.set_cons_zero, List.getD_cons_succ, List.getD_cons_zero]) | skip
        refine parseR3 (by rw [wrapB2, hse]) h2 (gat_app hg) hl2 ?_
        simp only [go_sem, reduceCtorEq, Nat.reduceAdd, Nat.reduceMul, Nat.reduceLeDiff, Nat.reduceLT, Int.reduceLE, Int.reduceLT, Int.reduceEq, Nat.reduceBEq, Nat.reduceEqDiff, d1, d2]
        refine lives_c (gat_app hg) ?_
        simp only [go_sem, reduceCtorEq, Nat.reduceAdd, Nat.reduceMul, Nat.reduceLeDiff, Nat.reduceLT, Int.reduceLE, Int.reduceLT, Int.reduceEq, Nat.reduceBEq, Nat.reduceEqDiff, d1, d2]
        exact fin_pure (ids_scv _ _) hk
    ·
        have c1 : decide ((300 : Int) < (s0.length : Int)) = false := by simp; omega
        have hse : s = s0 := by rw [hs]; exact List.take_of_length_le (by omega)
        have d1 : (e1 != 0) = true := by simp [q1]
        simp only [go_sem, reduceCtorEq, Nat.reduceAdd, Nat.reduceMul, Nat.reduceLeDiff, Nat.reduceLT, Int.reduceLE, Int.reduceLT, Int.reduceEq, Nat.reduceBEq, Nat.reduceEqDiff, ba_size, gt_iff_lt, c1, ba_extract]
        refine ⟨by omega, ?_⟩
        refine parseR3 (by rw [wrapB1, hse]) h1 hg hl1 ?_
        simp only [go_sem, reduceCtorEq, Nat.reduceAdd, Nat.reduceMul, Nat.reduceLeDiff, Nat.reduceLT, Int.reduceLE, Int.reduceLT, Int.reduceEq, Nat.reduceBEq, Nat.reduceEqDiff, ba_size, ba_extract]
        refine ⟨by omega, by omega, ?_⟩
        first | (unfold ACallsH; simp only [put_some, put_none', ev_tmp, List.set_cons_succ, List.set_cons_zero, List.getD_cons_succ, List.getD_cons_zero]) | skip
        refine parseR3 (by rw [wrapB2, hse]) h2 (gat_app hg) hl2 ?_
        simp only [go_sem, reduceCtorEq, Nat.reduceAdd, Nat.reduceMul, Nat.reduceLeDiff, Nat.reduceLT, Int.reduceLE, Int.reduceLT, Int.reduceEq, Nat.reduceBEq, Nat.reduceEqDiff, d1]
        cases d2 : e2 != 0 with
        | true =>
          simp only [go_sem, reduceCtorEq, Nat.reduceAdd, Nat.reduceMul, Nat.reduceLeDiff, Nat.reduceLT, Int.reduceLE, Int.reduceLT, Int.reduceEq, Nat.reduceBEq, Nat.reduceEqDiff, d1, d2]
          refine lives_c (gat_app hg) ?_
          simp only [go_sem, reduceCtorEq, Nat.reduceAdd, Nat.reduceMul, Nat.reduceLeDiff, Nat.reduceLT, Int.reduceLE, Int.reduceLT, Int.reduceEq, Nat.reduceBEq, Nat.reduceEqDiff, d1, d2]
          exact fin_pure (ids_scv _ _) hk
        | false =>
          simp only [go_sem, reduceCtorEq, Nat.reduceAdd, Nat.reduceMul, Nat.reduceLeDiff, Nat.reduceLT, Int.reduceLE, Int.reduceLT, Int.reduceEq, Nat.reduceBEq, Nat.reduceEqDiff, d1, d2]
          refine lives_c (gat_app hg) ?_
          simp only [go_sem, reduceCtorEq, Nat.reduceAdd, Nat.reduceMul, Nat.reduceLeDiff, Nat.reduceLT, Int.reduceLE, Int.reduceLT, Int.reduceEq, Nat.reduceBEq, Nat.reduceEqDiff, d1, d2]
          exact fin_pure (ids_scv _ _) hk
end Go.Proofs
