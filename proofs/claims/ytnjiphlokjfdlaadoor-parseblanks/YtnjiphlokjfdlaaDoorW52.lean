/- placed. -/
import Derived.Test.YtnjiphlokjfdlaaDoorW36
import Derived.Test.YtnjiphlokjfdlaaDoorP4
set_option linter.unusedSimpArgs false
set_option linter.unusedVariables false
set_option maxRecDepth 8000
namespace Go.Proofs
open Go Go.AL
end Go.Proofs
