/- ParseDeep's sources of the third kind. -/
import Derived.Test.YtnjiphlokjfdlaaDoorM5
namespace Go.AL
theorem deep2_0 : ∀ n : Fin 16, chkD (0 + n.1) 2 = true := by decide +kernel
theorem deep2_16 : ∀ n : Fin 8, chkD (16 + n.1) 2 = true := by decide +kernel
theorem deep2_24 : ∀ n : Fin 6, chkD (24 + n.1) 2 = true := by decide +kernel
theorem deep2_30 : ∀ n : Fin 6, chkD (30 + n.1) 2 = true := by decide +kernel
theorem deep2_36 : ∀ n : Fin 4, chkD (36 + n.1) 2 = true := by decide +kernel
theorem deep2_40 : ∀ n : Fin 4, chkD (40 + n.1) 2 = true := by decide +kernel
theorem deep2_44 : ∀ n : Fin 4, chkD (44 + n.1) 2 = true := by decide +kernel
theorem deep2_48 : ∀ n : Fin 4, chkD (48 + n.1) 2 = true := by decide +kernel
theorem deep2_52 : ∀ n : Fin 4, chkD (52 + n.1) 2 = true := by decide +kernel
theorem deep2_56 : ∀ n : Fin 2, chkD (56 + n.1) 2 = true := by decide +kernel
theorem deep2_58 : ∀ n : Fin 3, chkD (58 + n.1) 2 = true := by decide +kernel
end Go.AL
