/- ParseDeep's sources of the first two kinds. -/
import Derived.Test.YtnjiphlokjfdlaaDoorM5
namespace Go.AL
theorem deep0 : ∀ n : Fin 61, chkD n.1 0 = true := by decide +kernel
theorem deep1 : ∀ n : Fin 61, chkD n.1 1 = true := by decide +kernel
end Go.AL
