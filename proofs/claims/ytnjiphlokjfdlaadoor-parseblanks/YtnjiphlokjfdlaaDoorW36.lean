/- lives; pick. -/
import Derived.Test.YtnjiphlokjfdlaaDoorW35
set_option linter.unusedSimpArgs false
set_option linter.unusedVariables false
set_option maxRecDepth 8000
namespace Go.AL
def srcA : Tx := [100, 111, 32, 49, 32, 43, 32, 50, 32, 42, 32, 51]
def srcB : Tx := [100, 111, 32, 102, 32, 120, 32, 121]
def srcC : Tx := [100, 111, 32, 40]
def ndA : Nd := .mk 30 [] 0 0 [] [.mk 13 [43] 0 3 [] [.mk 1 [] 1 3 [] [], .mk 13 [42] 0 7 [] [.mk 1 [] 2 7 [] [], .mk 1 [] 3 11 [] []]]]
def ndB : Nd := .mk 30 [] 0 0 [] [.mk 7 [] 0 3 [] [.mk 7 [] 0 3 [] [.mk 4 [102] 0 3 [] [], .mk 4 [120] 0 5 [] []], .mk 4 [121] 0 7 [] []]]
theorem srunA : programF srcA = some (ndA, 0, 0) := by kernel_rfl
theorem srunB : programF srcB = some (ndB, 0, 0) := by kernel_rfl
theorem srunC : programF srcC = some (nd0, 4, 14) := by kernel_rfl
end Go.AL
namespace Go.Proofs
open Go Go.AL
theorem e11 : (((1 : Nat) : Int) != 1) = false := rfl
theorem e22 : (((2 : Nat) : Int) != 2) = false := rfl
theorem parseR2 {s : Tx} {x : ByteArray} {nd : Nd} {a e : Int} (h : programF s = some (nd, a, e)) (hx : x = ba s) {gid : Nat} {m : Int} {K : SV → St → Prop} {st : St} (hg : GAt gid m st) (hz : s.length ≤ 100000) (hk : K (.tuple [ndSV nd, .sc (.int .i64 a), .sc (.int .i64 e)]) st) : ACalls Tryd.prog 9 [.sc (.string x)] K st := by
  subst hx; exact parseR h hg hz hk
set_option maxHeartbeats 4000000 in
theorem lives_c {gid : Nat} {m : Int} {K : SV → St → Prop} {st : St} (hg : GAt gid m st) (hk : K (.sc (.bool true)) st) : ACalls Tryd.prog 10 [] K st := by
  refine acalls_go_pure [] Tryd.func10 rfl Tryd.results10 Tryd.ntmps10 ?_
  simp -implicitDefEqProofs (maxSteps := 3000000) only [go_sem, reduceCtorEq, Nat.reduceAdd, Nat.reduceMul, Nat.reduceLeDiff, Nat.reduceLT, Int.reduceLE, Int.reduceLT, Int.reduceEq, Nat.reduceBEq, Nat.reduceEqDiff]
  refine parseR2 srunA rfl hg (by decide) ?_
  simp -implicitDefEqProofs (maxSteps := 3000000) only [go_sem, reduceCtorEq, Nat.reduceAdd, Nat.reduceMul, Nat.reduceLeDiff, Nat.reduceLT, Int.reduceLE, Int.reduceLT, Int.reduceEq, Nat.reduceBEq, Nat.reduceEqDiff]
  refine parseR2 srunB rfl (gat_app hg) (by decide) ?_
  simp -implicitDefEqProofs (maxSteps := 3000000) only [go_sem, reduceCtorEq, Nat.reduceAdd, Nat.reduceMul, Nat.reduceLeDiff, Nat.reduceLT, Int.reduceLE, Int.reduceLT, Int.reduceEq, Nat.reduceBEq, Nat.reduceEqDiff]
  refine parseR2 srunC rfl (gat_app hg) (by decide) ?_
  simp -implicitDefEqProofs (maxSteps := 3000000) only [go_sem, reduceCtorEq, Nat.reduceAdd, Nat.reduceMul, Nat.reduceLeDiff, Nat.reduceLT, Int.reduceLE, Int.reduceLT, Int.reduceEq, Nat.reduceBEq, Nat.reduceEqDiff, ndA, ndB, nd0, ndSV, ndSVs, e11, e22, beq_self_eq_true, Bool.and_self, forall_const]
  refine ⟨by decide, by decide, by decide, by decide, by decide, by decide, by decide, ?_⟩
  exact fin_pure (ids_scv _ _) hk
end Go.Proofs
