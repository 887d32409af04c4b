/- Rows of TreeMany go together, by the kernel. -/
import Derived.Test.YtcanmhognofheaaP5
set_option linter.all false
set_option maxRecDepth 100000
namespace Go.Proofs
open Go Go.AL
theorem togB18 : togB 18 = true := by decide +kernel
theorem togB19 : togB 19 = true := by decide +kernel
theorem togB20 : togB 20 = true := by decide +kernel
end Go.Proofs
