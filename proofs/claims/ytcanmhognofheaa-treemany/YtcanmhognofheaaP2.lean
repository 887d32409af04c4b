/- The plain law of TreeMany, by the kernel: 14 to 17 rows. -/
import Derived.Test.YtcanmhognofheaaP0
set_option linter.all false
set_option maxRecDepth 100000
namespace Go.Proofs
open Go Go.AL
theorem lawF14 : lawT eqsF 14 = true := by decide +kernel
theorem lawF15 : lawT eqsF 15 = true := by decide +kernel
theorem lawF16 : lawT eqsF 16 = true := by decide +kernel
theorem lawF17 : lawT eqsF 17 = true := by decide +kernel
end Go.Proofs
