/- The plain law of TreeMany, by the kernel: 18 to 20 rows. -/
import Derived.Test.YtcanmhognofheaaP0
set_option linter.all false
set_option maxRecDepth 100000
namespace Go.Proofs
open Go Go.AL
theorem lawF18 : lawT eqsF 18 = true := by decide +kernel
theorem lawF19 : lawT eqsF 19 = true := by decide +kernel
theorem lawF20 : lawT eqsF 20 = true := by decide +kernel
end Go.Proofs
