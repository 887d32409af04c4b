/- Cons: the constructors of the statements. -/
import Derived.Test.YtcanmhognofheaaW18
set_option linter.all false
set_option linter.unusedSimpArgs false
set_option maxRecDepth 100000
namespace Go.Proofs
open Go Go.AL
def bs (l : List UInt8) : ByteArray := ⟨⟨l⟩⟩
def sBool : ByteArray := bs [98,111,111,108]
def sList : ByteArray := bs [108,105,115,116]
def sThree : ByteArray := bs [116,104,114,101,101]
def sPair : ByteArray := bs [112,97,105,114]
def consL : List Cn := [⟨bs [70,97,108,115,101],sBool,0,0,2⟩,⟨bs [84,114,117,101],sBool,1,0,2⟩,⟨bs [78,105,108],sList,0,0,2⟩,⟨bs [67,111,110,115],sList,1,2,2⟩,
  ⟨bs [65],sThree,0,0,3⟩,⟨bs [66],sThree,1,1,3⟩,⟨bs [67],sThree,2,0,3⟩,⟨bs [80],sPair,0,2,1⟩]
theorem cons_c (K : SV → St → Prop) (st : St) (h : K (consSV consL) st) : ACalls Try.prog 4 [] K st :=
  acalls_checkT (cfg := {}) cfg_none Try.mixed 200 (y := consSV consL) (by decide +kernel) h
theorem low_cons : Low consL := ⟨by decide,by decide⟩
theorem sound_cons : soundUpto consL consL.length = true := by decide +kernel
theorem hfind_cons : ∀ c ∈ consL,findC consL c.name = some c := by
  intro c hc
  simp only [consL,List.mem_cons,List.not_mem_nil,or_false] at hc
  rcases hc with rfl | rfl | rfl | rfl | rfl | rfl | rfl | rfl <;> kernel_rfl
end Go.Proofs
