/- few; ParsePlaces. -/
import Derived.Test.YtnjiphlokjfdlaaDoorW52
import Derived.Test.YtnjiphlokjfdlaaDoorW51
import Derived.Test.YtnjiphlokjfdlaaDoorP13
set_option linter.unusedSimpArgs false
set_option linter.unusedVariables false
set_option maxRecDepth 8000
namespace Go.Proofs
open Go Go.AL
set_option maxHeartbeats 4000000 in
theorem few_c {s : Tx} {K : SV → St → Prop} {st : St} (hk : K (.sc (.string (ba (s.take 400)))) st) : ACalls Tryd.prog 11 [.sc (.string (ba s))] K st := by
  refine acalls_go_pure [] Tryd.func11 rfl Tryd.results11 Tryd.ntmps11 ?_
  by_cases hl : 400 < s.length
  · have c1 : decide ((400 : Int) < (s.length : Int)) = true := by simp; omega
    simp only [go_sem, reduceCtorEq, Nat.reduceAdd, Nat.reduceMul, Nat.reduceLeDiff, Nat.reduceLT, Int.reduceLE, Int.reduceLT, Int.reduceEq, Nat.reduceBEq, Nat.reduceEqDiff, ba_size, gt_iff_lt, c1, ba_extract]
    exact ⟨⟨by omega, by omega⟩, fin_pure1 (ids_scv _ _) hk⟩
  · have c1 : decide ((400 : Int) < (s.length : Int)) = false := by simp; omega
    rw [List.take_of_length_le (by omega)] at hk
    simp only [go_sem, reduceCtorEq, Nat.reduceAdd, Nat.reduceMul, Nat.reduceLeDiff, Nat.reduceLT, Int.reduceLE, Int.reduceLT, Int.reduceEq, Nat.reduceBEq, Nat.reduceEqDiff, ba_size, gt_iff_lt, c1, ba_extract]
    exact fin_pure1 (ids_scv _ _) hk
theorem rtokO_c {s : Tx} (hz : s.length ≤ 100000) {T : List Tk} (h : lexF s = .ok T) {K : SV → St → Prop} {st : St} (hk : K (.tuple [.slice .imm 4 (T.map tkSV), .sc (.int .i64 0), .sc (.int .i64 0)]) st) : ACalls Tryd.prog 12 [.sc (.string (ba s))] K st := by
  refine rtokens_c hz ?_
  rw [h]; exact hk
theorem z00 : ((0 : Int) == 0) = true := rfl
/-- What a source's node is, as ParsePlaces asks. -/
theorem program_places {s : Tx} : ∃ n a e, programF s = some (n, a, e) ∧ (e = 0 → ∃ T, lexF s = .ok T ∧ Pl T n ∧ T.length ≤ 2001) ∧ (e ≠ 0 → n = nd0) := by
  unfold programF
  cases hl : lexF s with
  | error x =>
    obtain ⟨a, e⟩ := x
    exact ⟨_, _, _, rfl, fun h => absurd h (lexF_err hl), fun _ => rfl⟩
  | ok T =>
    have hlen := lexF_len hl
    obtain ⟨nd, b, e, h1, h2, h3⟩ := parse_ok (lx_tok (lexF_lx hl).1).1
    exact ⟨nd, b, e, h1, fun h => ⟨T, rfl, (h2 h).2, hlen⟩, h3⟩
set_option maxHeartbeats 4000000 in
theorem places_c {gid : Nat} {m : Int} {K : SV → St → Prop} {st : St} (hg : GAt gid m st) {s0 : Tx} (hk : K (.sc (.bool true)) st) : ACalls Tryd.prog 7 [.sc (.string (ba s0))] K st := by
  refine acalls_go_pure [] Tryd.func7 rfl Tryd.results7 Tryd.ntmps7 ?_
  obtain ⟨s, hs⟩ : ∃ s, s = s0.take 400 := ⟨_, rfl⟩
  have hsl : s.length ≤ 400 := by rw [hs]; simp; omega
  obtain ⟨n, a, e, h1, h2, h3⟩ := program_places (s := s)
  rw [hs] at h1
  by_cases he : e = 0
  · have c1 : (e != 0) = false := by simp [he]
    obtain ⟨T, hT, hP, hl⟩ := h2 he
    rw [hs] at hT
    simp only [go_sem, reduceCtorEq, Nat.reduceAdd, Nat.reduceMul, Nat.reduceLeDiff, Nat.reduceLT, Int.reduceLE, Int.reduceLT, Int.reduceEq, Nat.reduceBEq, Nat.reduceEqDiff]
    refine few_c ?_
    simp only [go_sem, reduceCtorEq, Nat.reduceAdd, Nat.reduceMul, Nat.reduceLeDiff, Nat.reduceLT, Int.reduceLE, Int.reduceLT, Int.reduceEq, Nat.reduceBEq, Nat.reduceEqDiff]
    refine parseR h1 hg (by rw [← hs]; omega) ?_
    simp only [go_sem, reduceCtorEq, Nat.reduceAdd, Nat.reduceMul, Nat.reduceLeDiff, Nat.reduceLT, Int.reduceLE, Int.reduceLT, Int.reduceEq, Nat.reduceBEq, Nat.reduceEqDiff, c1]
    first | (unfold ACallsH; simp only [put_some, put_none', ev_tmp, List.set_cons_succ, List.set_cons_zero, List.getD_cons_succ, List.getD_cons_zero]) | skip
    refine rtokO_c (by rw [← hs]; omega) hT ?_
    simp only [go_sem, reduceCtorEq, Nat.reduceAdd, Nat.reduceMul, Nat.reduceLeDiff, Nat.reduceLT, Int.reduceLE, Int.reduceLT, Int.reduceEq, Nat.reduceBEq, Nat.reduceEqDiff, c1, d0n, z00]
    refine placed_c (by omega) hP _ _ ?_
    simp only [go_sem, reduceCtorEq, Nat.reduceAdd, Nat.reduceMul, Nat.reduceLeDiff, Nat.reduceLT, Int.reduceLE, Int.reduceLT, Int.reduceEq, Nat.reduceBEq, Nat.reduceEqDiff, c1, d0n, z00]
    refine lives_c (gat_app hg) ?_
    simp only [go_sem, reduceCtorEq, Nat.reduceAdd, Nat.reduceMul, Nat.reduceLeDiff, Nat.reduceLT, Int.reduceLE, Int.reduceLT, Int.reduceEq, Nat.reduceBEq, Nat.reduceEqDiff, c1, d0n, z00]
    exact fin_pure (ids_scv _ _) hk
  · have c1 : (e != 0) = true := by simp [he]
    have hn := h3 he
    have nk : (n.kind == 0) = true := by rw [hn]; rfl
    simp only [go_sem, reduceCtorEq, Nat.reduceAdd, Nat.reduceMul, Nat.reduceLeDiff, Nat.reduceLT, Int.reduceLE, Int.reduceLT, Int.reduceEq, Nat.reduceBEq, Nat.reduceEqDiff]
    refine few_c ?_
    simp only [go_sem, reduceCtorEq, Nat.reduceAdd, Nat.reduceMul, Nat.reduceLeDiff, Nat.reduceLT, Int.reduceLE, Int.reduceLT, Int.reduceEq, Nat.reduceBEq, Nat.reduceEqDiff]
    refine parseR h1 hg (by rw [← hs]; omega) ?_
    simp only [go_sem, reduceCtorEq, Nat.reduceAdd, Nat.reduceMul, Nat.reduceLeDiff, Nat.reduceLT, Int.reduceLE, Int.reduceLT, Int.reduceEq, Nat.reduceBEq, Nat.reduceEqDiff, c1, cells_nd, nk]
    refine lives_c (gat_app hg) ?_
    simp only [go_sem, reduceCtorEq, Nat.reduceAdd, Nat.reduceMul, Nat.reduceLeDiff, Nat.reduceLT, Int.reduceLE, Int.reduceLT, Int.reduceEq, Nat.reduceBEq, Nat.reduceEqDiff, c1, cells_nd, nk]
    exact fin_pure (ids_scv _ _) hk
end Go.Proofs
