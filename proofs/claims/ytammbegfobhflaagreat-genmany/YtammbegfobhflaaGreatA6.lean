/- The abstract layer, part 21: what stands behind a call, a loop or a region that draws, held: simp does not look into it. -/
import Derived.Test.YtammbegfobhflaaGreatA3
import Derived.Carry
import Derived.ChangeBears
set_option linter.all false
set_option linter.unusedVariables false
namespace Go.AL
variable {P : Program}
class Held (α : Type) where
  val : α
def ACallsH (P : Program) (f : FuncId) (args : List SV) (st : St) [h : Held (SV → St → Prop)] : Prop := ACalls P f args h.val st
def AWpH (P : Program) (c : Code) (env : List SV) (st : St) [h : Held (Exit → List SV → St → Prop)] : Prop := AWp P c h.val env st
theorem call_funcH {K : SV → St → Prop} {st : St} {a xs ys : List SV} {q : FuncId} : callSpec P a st (.func (.func q) xs ys) K = (aBody P q = true ∧ @ACallsH P q (xs ++ a ++ ys) st ⟨K⟩) := rfl
theorem c_loopH {M : List Nat} {Q : Exit → List SV → St → Prop} {env : List SV} {st : St} (c : Code) : cSpec P M (.loop c) Q env st = @AWpH P (.loop c) env st ⟨Q⟩ := rfl
theorem c_drawH {M : List Nat} {Q : Exit → List SV → St → Prop} {env : List SV} {st : St} (id : Nat) (ops : Array Oper) : cSpec P M (.region id ops true) Q env st = @AWpH P (.region id ops true) env st ⟨Q⟩ := rfl
theorem gAll_F {env : List SV} (l : List Operand) : gAll False env l = True := eq_true (gAll_of (fun h => h) l)
theorem gIf_F {x : SV} : gIf False x = True := by cases x <;> first | rfl | exact eq_true fun h => h.elim
theorem acalls_args {f : FuncId} {args args' : List SV} {K : SV → St → Prop} {st : St} (hl : SVles args args') (h : ACalls P f args' K st) : ACalls P f args K st :=
  fun σ w vs hI hR => h σ w vs hI ⟨hR.1.trans hl.len, fun i hi => hl.at i _ _ _ _ (hR.2 i (by rw [hl.len]; exact hi))⟩
end Go.AL
set_option linter.unusedVariables false
namespace Go.AL
variable {P : Program}
end Go.AL
set_option linter.unusedVariables false
namespace Go.AL
open Go Go.RowKit
variable {P : Program}
def topS (w : World) : Sig := { lock := fun b => if b < w.heap.size then .all else .upto 0, μ := fun _ => none }
section
variable {H : Type} {enc : TypeId × Value → H} {w : World} {T : TypeId → Prop}
end
end Go.AL
