/- Numbers made such as may be; lists of numbers in memory. -/
import Derived.Test.YteclbnjpijakbaaT0
set_option linter.unusedSimpArgs false
set_option linter.unusedVariables false
set_option maxRecDepth 8000
namespace Go.Proofs
open Go Go.AL

/-- A number made one that may be. -/
def nrm (n m : Int) : Int := (if n < 0 then -(n + 1) else n).tmod m

theorem nrm_in (n : Int) {m : Int} (hm : 0 < m) : 0 ≤ nrm n m ∧ nrm n m < m := by
  unfold nrm
  refine ⟨Int.tmod_nonneg _ (by split <;> omega), Int.tmod_lt_of_pos _ hm⟩
theorem nrm_neg {n m : Int} (h : n < 0) : (-(n + 1)).tmod m = nrm n m := by unfold nrm; rw [if_pos h]
theorem nrm_pos {n m : Int} (h : ¬ n < 0) : n.tmod m = nrm n m := by unfold nrm; rw [if_neg h]
theorem nrm_w1 {n : Int} (h : -9223372036854775808 ≤ n ∧ n ≤ 9223372036854775807) (hn : n < 0) : IntKind.i64.wrap (n + 1) = n + 1 := by rw [IntWalk.i64_in _ (by omega)]
theorem nrm_w2 {n : Int} (h : -9223372036854775808 ≤ n ∧ n ≤ 9223372036854775807) (hn : n < 0) : IntKind.i64.wrap (0 - (n + 1)) = -(n + 1) := by rw [IntWalk.i64_in _ (by omega)]; omega

theorem dd_get2 {l : List Dd} {k : Nat} (h : k < l.length) : (l.map ddSV).getD k .any = ddSV (l.getD k default) := by simp [List.getD_eq_getElem?_getD, h]

/-- The cells of a list of numbers, one of them another. -/
theorem want_set {l : List Int} {n : Nat} (h : n < l.length) (v : Int) : (l.map i64).take n ++ i64 v :: (l.map i64).drop (n + 1) = (l.set n v).map i64 := by
  rw [List.map_set, List.set_eq_take_append_cons_drop, if_pos (by simpa using h)]
theorem want_drop {l : List Int} {n : Nat} (h : n < l.length) : (l.map i64).drop n = i64 (l.getD n 0) :: (l.map i64).drop (n + 1) := by
  rw [List.drop_eq_getElem_cons (by simpa using h)]; simp [List.getD_eq_getElem?_getD, h]

theorem both_of {Z A B : Prop} (hz : Z) (h : Z → A ∧ B) : A ∧ B := h hz

end Go.Proofs
