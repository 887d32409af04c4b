/- Rows of TreeMany go together, by the kernel. -/
import Derived.Test.YtcanmhognofheaaP5
set_option linter.all false
set_option maxRecDepth 100000
namespace Go.Proofs
open Go Go.AL
theorem togB0 : togB 0 = true := by decide +kernel
theorem togB1 : togB 1 = true := by decide +kernel
theorem togB2 : togB 2 = true := by decide +kernel
theorem togB3 : togB 3 = true := by decide +kernel
theorem togB4 : togB 4 = true := by decide +kernel
theorem togB5 : togB 5 = true := by decide +kernel
theorem togB6 : togB 6 = true := by decide +kernel
theorem togB7 : togB 7 = true := by decide +kernel
theorem togB8 : togB 8 = true := by decide +kernel
theorem togB9 : togB 9 = true := by decide +kernel
theorem togB10 : togB 10 = true := by decide +kernel
theorem togB11 : togB 11 = true := by decide +kernel
theorem togB12 : togB 12 = true := by decide +kernel
theorem togB13 : togB 13 = true := by decide +kernel
end Go.Proofs
