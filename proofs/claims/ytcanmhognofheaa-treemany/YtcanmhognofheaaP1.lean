/- The plain law of TreeMany, by the kernel: 0 to 13 rows. -/
import Derived.Test.YtcanmhognofheaaP0
set_option linter.all false
set_option maxRecDepth 100000
namespace Go.Proofs
open Go Go.AL
theorem lawF0 : lawT eqsF 0 = true := by decide +kernel
theorem lawF1 : lawT eqsF 1 = true := by decide +kernel
theorem lawF2 : lawT eqsF 2 = true := by decide +kernel
theorem lawF3 : lawT eqsF 3 = true := by decide +kernel
theorem lawF4 : lawT eqsF 4 = true := by decide +kernel
theorem lawF5 : lawT eqsF 5 = true := by decide +kernel
theorem lawF6 : lawT eqsF 6 = true := by decide +kernel
theorem lawF7 : lawT eqsF 7 = true := by decide +kernel
theorem lawF8 : lawT eqsF 8 = true := by decide +kernel
theorem lawF9 : lawT eqsF 9 = true := by decide +kernel
theorem lawF10 : lawT eqsF 10 = true := by decide +kernel
theorem lawF11 : lawT eqsF 11 = true := by decide +kernel
theorem lawF12 : lawT eqsF 12 = true := by decide +kernel
theorem lawF13 : lawT eqsF 13 = true := by decide +kernel
end Go.Proofs
