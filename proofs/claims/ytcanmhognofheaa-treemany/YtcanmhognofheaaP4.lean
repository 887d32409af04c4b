/- The plain law of TreeMany. -/
import Derived.Test.YtcanmhognofheaaP1
import Derived.Test.YtcanmhognofheaaP2
import Derived.Test.YtcanmhognofheaaP3
set_option linter.all false
namespace Go.Proofs
open Go Go.AL
theorem all_lawT {n : Nat} (h : n < 21) : lawT eqsS n = true := by
  rw [eqs_d]
  match n,h with
  | 0,_ => exact lawF0
  | 1,_ => exact lawF1
  | 2,_ => exact lawF2
  | 3,_ => exact lawF3
  | 4,_ => exact lawF4
  | 5,_ => exact lawF5
  | 6,_ => exact lawF6
  | 7,_ => exact lawF7
  | 8,_ => exact lawF8
  | 9,_ => exact lawF9
  | 10,_ => exact lawF10
  | 11,_ => exact lawF11
  | 12,_ => exact lawF12
  | 13,_ => exact lawF13
  | 14,_ => exact lawF14
  | 15,_ => exact lawF15
  | 16,_ => exact lawF16
  | 17,_ => exact lawF17
  | 18,_ => exact lawF18
  | 19,_ => exact lawF19
  | 20,_ => exact lawF20
  | n + 21,h => exact absurd h (by omega)
end Go.Proofs
