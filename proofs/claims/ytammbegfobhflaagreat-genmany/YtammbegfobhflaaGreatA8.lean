/- The abstract layer, part 32a: a call whose code is walked by hand (for claims that leave parts 28 to 37 out). -/
import Derived.Test.YtammbegfobhflaaGreatA7
set_option linter.all false
set_option linter.unusedVariables false
namespace Go.AL
variable {P : Program}
end Go.AL
set_option linter.unusedVariables false
namespace Go.AL
variable {P : Program}
def isStore : Op → Bool
  | .store _ _ _ => true
  | _ => false
def drawU (P : Program) (M : List Nat) (ds : List (Option Tmp)) (R : St → Prop) (s0 : St) : List Nat → List Oper → List SV → St → (List SV → St → Prop) → Prop
  | [], [], env, st, K => K env st
  | 0 :: tg, o :: r, env, st, K => d1Spec P M ds o env s0 fun x => drawU P M ds R s0 tg r (putE env o.dst x) st K
  | 1 :: tg, o :: r, env, st, K => isStore o.op = true ∧ o.guard = none ∧ effSpec P M o (onlyAt (opTmps o.op.operands.toList) 0 env) st fun x s => R s ∧ drawU P M ds R s0 tg r (putE env o.dst x) s K
  | 2 :: tg, o :: r, env, st, K => d1Spec P M ds o env st fun x => (∀ s, R s → d1Spec P M ds o env s fun y => y = x) ∧ drawU P M ds R s0 tg r (putE env o.dst x) st K
  | 3 :: tg, o :: r, env, st, K => ∃ X s', effSpec P M o (onlyAt (opTmps o.op.operands.toList) 0 env) st (fun x s => x = X ∧ s = s') ∧ o.guard = none ∧ R s' ∧ drawU P M ds R s0 tg r (putE env o.dst X) s' K
  | _, _, _, _, _ => False
section
variable {M : List Nat} {ds : List (Option Tmp)} {R : St → Prop} {s0 st : St} {tg : List Nat} {o : Oper} {r : List Oper} {env : List SV} {K : List SV → St → Prop}
theorem isStore_s {t : TypeId} {a b : Operand} : isStore (.store t a b) = true := rfl
end
theorem store_ext {M : List Nat} {o : Oper} {env : List SV} {st : St} {K : SV → St → Prop} (hs : isStore o.op = true) (h : effSpec P M o env st K) : ∃ X s', effSpec P M o env st (fun x s => x = X ∧ s = s') ∧ K X s' := by
  unfold isStore at hs
  split at hs
  · rename_i t x y ho
    unfold effSpec at h ⊢
    rw [ho] at h ⊢
    simp only at h ⊢
    obtain ⟨h1, h2⟩ := h
    unfold storeSpec at h2 ⊢
    split at h2
    · rename_i e
      rw [e] at *
      obtain ⟨a, b, c, d, f, g⟩ := h2
      exact ⟨_, _, ⟨h1, a, b, c, d, f, rfl, rfl⟩, g⟩
    · rename_i e
      rw [e] at *
      obtain ⟨a, b, c, d, f, g⟩ := h2
      exact ⟨_, _, ⟨h1, a, b, c, d, f, rfl, rfl⟩, g⟩
    · exact h2.elim
  · cases hs
end Go.AL
set_option linter.unusedVariables false
namespace Go.AL
variable {P : Program}
def drawN (P : Program) (M : List Nat) (ds : List (Option Tmp)) : Nat → List Oper → List SV → St → (List SV → St → Prop) → Prop
  | 0, o :: r, env, st, K => o.guard = none ∧ effSpec P M o (onlyAt (opTmps o.op.operands.toList) 0 env) st fun x s => drawSpec P M ds r (putE env o.dst x) s fun e => K e s
  | k + 1, o :: r, env, st, K => d1Spec P M ds o env st fun x => drawN P M ds k r (putE env o.dst x) st K
  | _, [], _, _, _ => False
section
variable {M : List Nat} {ds : List (Option Tmp)} {st : St} {o : Oper} {r : List Oper} {env : List SV}
theorem drawN_0 {K : List SV → St → Prop} : drawN P M ds 0 (o :: r) env st K = (o.guard = none ∧ effSpec P M o (onlyAt (opTmps o.op.operands.toList) 0 env) st fun x s => drawSpec P M ds r (putE env o.dst x) s fun e => K e s) := rfl
theorem drawN_s {k : Nat} {K : List SV → St → Prop} : drawN P M ds (k + 1) (o :: r) env st K = d1Spec P M ds o env st fun x => drawN P M ds k r (putE env o.dst x) st K := rfl
theorem drawN_congr {k : Nat} {l l' : List Oper} {env' : List SV} {st' : St} {K : List SV → St → Prop} (h2 : l = l') (h3 : env = env') (h4 : st = st') : drawN P M ds k l env st K = drawN P M ds k l' env' st' K := by rw [h2, h3, h4]
theorem drawU_congr {R : St → Prop} {s0 s0' : St} {tg : List Nat} {l l' : List Oper} {env' : List SV} {st' : St} {K : List SV → St → Prop} (h2 : l = l') (h3 : env = env') (h4 : st = st') (h5 : s0 = s0') : drawU P M ds R s0 tg l env st K = drawU P M ds R s0' tg l' env' st' K := by rw [h2, h3, h4, h5]
attribute [congr] drawN_congr drawU_congr
attribute [go_sem] drawN_0 drawN_s
end
end Go.AL
