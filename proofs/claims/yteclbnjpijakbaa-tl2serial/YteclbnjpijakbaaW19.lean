/- The engine: New. -/
import Derived.Test.YteclbnjpijakbaaW18
set_option linter.unusedSimpArgs false
set_option linter.unusedVariables false
set_option maxRecDepth 8000
namespace Go.Proofs
open Go Go.AL

def EP.new : EP := ⟨0, [], List.replicate 8 none⟩
def EG.new (n : Nat) : EG := ⟨n, n + 1, 0, 0, [], List.replicate 8 none⟩

theorem new_at (st : St) (s : St) (h1 : s[st.length]? = some (.cells (EG.new st.length).cells)) (h2 : s[st.length + 1]? = some (.arr 0 3 [])) : EngAt s (EG.new st.length) := by
  have hn : ∀ (t : Nat) (x : TX), (EG.new st.length).txs[t]? = some (some x) → False := by
    intro t x hx
    simp only [EG.new, List.getElem?_replicate] at hx
    split at hx <;> cases hx
  exact ⟨h1, h2, rfl, by simp [EG.new], fun t x hx => (hn t x hx).elim, fun t t' x x' hx => (hn t x hx).elim, fun t x hx => (hn t x hx).elim⟩

theorem new_c {st : St} (K : SV → St → Prop) (h : ∀ s, EngAt s (EG.new st.length) → (∀ j, j < st.length → s[j]? = st[j]?) → st.length ≤ s.length → K (.ptr st.length 0) s) : ACalls Try.prog 42 [] K st := by
  refine acalls_conv ?_
  refine acalls_go (M := [2]) Try.func42 rfl Try.results42 Try.ntmps42 ?_
  simp only [go_sem, reduceCtorEq, Nat.reduceAdd, Nat.reduceMul, Nat.reduceLeDiff, Nat.reduceLT, Int.reduceLE, Int.reduceLT, Int.reduceEq, Nat.reduceBEq, Nat.reduceEqDiff]
  have h0 : (st ++ [Ob.cells (i64 0 :: .slice .full 0 [] :: List.replicate 8 (.sc (.pointer none)))])[st.length]? = some (.cells (i64 0 :: .slice .full 0 [] :: List.replicate 8 (.sc (.pointer none)))) := by simp
  have c1 := conv_arrC st.length 1 3 0 h0 (by simp) rfl
  refine ⟨_, c1, ?_⟩
  generalize hs : List.set _ _ _ ++ [Ob.arr 0 3 []] = s
  have e : s = st ++ [Ob.cells (EG.new st.length).cells, Ob.arr 0 3 []] := by
    rw [← hs, List.set_append_right _ _ (Nat.le_refl _), Nat.sub_self, List.append_assoc]
    simp [EG.new, EG.cells, txSV]
  refine h s (new_at st s (by rw [e]; simp) (by rw [e, List.getElem?_append_right (by omega)]; simp)) (fun j hj => by rw [e, List.getElem?_append_left hj]) (by rw [e]; simp)

end Go.Proofs
