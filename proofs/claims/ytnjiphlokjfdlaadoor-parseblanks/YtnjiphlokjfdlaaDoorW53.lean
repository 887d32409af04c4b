/- few; ParsePlaces. -/
import Derived.Test.YtnjiphlokjfdlaaDoorW52
import Derived.Test.YtnjiphlokjfdlaaDoorW51
import Derived.Test.YtnjiphlokjfdlaaDoorP13
set_option linter.unusedSimpArgs false
set_option linter.unusedVariables false
set_option maxRecDepth 8000
namespace Go.Proofs
open Go Go.AL
set_option maxHeartbeats 4000000 in
theorem few_c {s : Tx} {K : SV → St → Prop} {st : St} (hk : K (.sc (.string (ba (s.take 400)))) st) : ACalls Tryd.prog 11 [.sc (.string (ba s))] K st := by
  refine acalls_go_pure [] Tryd.func11 rfl Tryd.results11 Tryd.ntmps11 ?_
  by_cases hl : 400 < s.length
  · have c1 : decide ((400 : Int) < (s.length : Int)) = true := by simp; omega
    simp only [go_sem, reduceCtorEq, Nat.reduceAdd, Nat.reduceMul, Nat.reduceLeDiff, Nat.reduceLT, Int.reduceLE, Int.reduceLT, Int.reduceEq, Nat.reduceBEq, Nat.reduceEqDiff, ba_size, gt_iff_lt, c1, ba_extract]
    exact ⟨⟨by omega, by omega⟩, fin_pure1 (ids_scv _ _) hk⟩
  · have c1 : decide ((400 : Int) < (s.length : Int)) = false := by simp; omega
    rw [List.take_of_length_le (by omega)] at hk
    simp only [go_sem, reduceCtorEq, Nat.reduceAdd, Nat.reduceMul, Nat.reduceLeDiff, Nat.reduceLT, Int.reduceLE, Int.reduceLT, Int.reduceEq, Nat.reduceBEq, Nat.reduceEqDiff, ba_size, gt_iff_lt, c1, ba_extract]
    exact fin_pure1 (ids_scv _ _) hk
theorem rtokO_c {s : Tx} (hz : s.length ≤ 100000) {T : List Tk} (h : lexF s = .ok T) {K : SV → St → Prop} {st : St} (hk : K (.tuple [.slice .imm 4 (T.map tkSV), .sc (.int .i64 0), .sc (.int .i64 0)]) st) : ACalls Tryd.prog 12 [.sc (.string (ba s))] K st := by
  refine rtokens_c hz ?_
  rw [h]; exact hk
end Go.Proofs
