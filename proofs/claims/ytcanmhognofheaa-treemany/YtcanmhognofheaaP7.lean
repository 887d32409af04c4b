/- Rows of TreeMany go together, by the kernel. -/
import Derived.Test.YtcanmhognofheaaP5
set_option linter.all false
set_option maxRecDepth 100000
namespace Go.Proofs
open Go Go.AL
theorem togB14 : togB 14 = true := by decide +kernel
theorem togB15 : togB 15 = true := by decide +kernel
theorem togB16 : togB 16 = true := by decide +kernel
theorem togB17 : togB 17 = true := by decide +kernel
end Go.Proofs
