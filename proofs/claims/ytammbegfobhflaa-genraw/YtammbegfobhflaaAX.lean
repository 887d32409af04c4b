/- The abstract layer, part 49: congruences that count a step by 'rfl' too (an argument 'Unit' makes simp see it), so that what stands behind an operation is not looked at ahead of its time. -/
import Derived.Test.YtammbegfobhflaaA9
import Derived.Test.YtammbegfobhflaaA7
set_option linter.all false
set_option linter.unusedVariables false
namespace Go.AL
variable {P : Program}
section
variable {M : List Nat} {K : SV → St → Prop} {env : List SV} {st : St} {ds : List (Option Tmp)} {l : List Oper} {N : List SV → St → Prop} {o : Oper} {kd : Kd} {g : Bool}
  {env' : Unit → List SV} {st' : Unit → St} {ds' : Unit → List (Option Tmp)} {l' : Unit → List Oper} {kd' : Unit → Kd} {g' : Unit → Bool}
theorem opsSpec_cU (h1 : ∀ u, ds = ds' u) (h2 : ∀ u, l = l' u) (h3 : ∀ u, env = env' u) (h4 : ∀ u, st = st' u) : opsSpec P M ds l env st N = opsSpec P M (ds' ()) (l' ()) (env' ()) (st' ()) N := by rw [← h1, ← h2, ← h3, ← h4]
theorem kdSpec_cU (h3 : ∀ u, env = env' u) (h4 : ∀ u, st = st' u) (h5 : ∀ u, kd = kd' u) : kdSpec P M o env st N kd = kdSpec P M o (env' ()) (st' ()) N (kd' ()) := by rw [← h3, ← h4, ← h5]
theorem gdSpec_cU (h3 : ∀ u, env = env' u) (h4 : ∀ u, st = st' u) (h6 : ∀ u, g = g' u) (h5 : ∀ u, kd = kd' u) : gdSpec P M o env st g N kd = gdSpec P M o (env' ()) (st' ()) (g' ()) N (kd' ()) := by rw [← h3, ← h4, ← h5, ← h6]
theorem dkSpec_cU {N : SV → Prop} (h3 : ∀ u, env = env' u) (h4 : ∀ u, st = st' u) (h5 : ∀ u, kd = kd' u) : dkSpec P M o env st N kd = dkSpec P M o (env' ()) (st' ()) N (kd' ()) := by rw [← h3, ← h4, ← h5]
theorem dgSpec_cU {N : SV → Prop} (h3 : ∀ u, env = env' u) (h4 : ∀ u, st = st' u) (h6 : ∀ u, g = g' u) (h5 : ∀ u, kd = kd' u) : dgSpec P M o env st g N kd = dgSpec P M o (env' ()) (st' ()) (g' ()) N (kd' ()) := by rw [← h3, ← h4, ← h5, ← h6]
theorem drawSpec_cU {N : List SV → Prop} (h1 : ∀ u, ds = ds' u) (h2 : ∀ u, l = l' u) (h3 : ∀ u, env = env' u) (h4 : ∀ u, st = st' u) : drawSpec P M ds l env st N = drawSpec P M (ds' ()) (l' ()) (env' ()) (st' ()) N := by rw [← h1, ← h2, ← h3, ← h4]
theorem cSpec_cU {c : Code} {Q : Exit → List SV → St → Prop} (h3 : ∀ u, env = env' u) (h4 : ∀ u, st = st' u) : cSpec P M c Q env st = cSpec P M c Q (env' ()) (st' ()) := by rw [← h3, ← h4]
variable {x y : SV} {x' y' : Unit → SV} {t tx : TypeId} {a : List SV} {a' : Unit → List SV}
theorem storeSpec_cU {N : St → Prop} (h : ∀ u, st = st' u) (h1 : ∀ u, y = y' u) (h2 : ∀ u, x = x' u) : storeSpec P t st y x N = storeSpec P t (st' ()) (y' ()) (x' ()) N := by rw [← h, ← h1, ← h2]
theorem appSpec_cU (h : ∀ u, st = st' u) (h1 : ∀ u, x = x' u) (h2 : ∀ u, y = y' u) : appSpec P t tx st x y K = appSpec P t tx (st' ()) (x' ()) (y' ()) K := by rw [← h, ← h1, ← h2]
theorem appObSpec_cU (h : ∀ u, st = st' u) (h1 : ∀ u, x = x' u) (h2 : ∀ u, y = y' u) : appObSpec P t tx st x y K = appObSpec P t tx (st' ()) (x' ()) (y' ()) K := by rw [← h, ← h1, ← h2]
theorem appMkSpec_cU (h : ∀ u, st = st' u) (h1 : ∀ u, x = x' u) (h2 : ∀ u, y = y' u) : appMkSpec P t tx st x y K = appMkSpec P t tx (st' ()) (x' ()) (y' ()) K := by rw [← h, ← h1, ← h2]
theorem copySpec_cU (h : ∀ u, st = st' u) (h1 : ∀ u, x = x' u) (h2 : ∀ u, y = y' u) : copySpec P t st x y K = copySpec P t (st' ()) (x' ()) (y' ()) K := by rw [← h, ← h1, ← h2]
theorem makeSpec_cU (h : ∀ u, st = st' u) (h1 : ∀ u, x = x' u) (h2 : ∀ u, y = y' u) : makeSpec P t st x y K = makeSpec P t (st' ()) (x' ()) (y' ()) K := by rw [← h, ← h1, ← h2]
theorem callSpec_cU (h : ∀ u, a = a' u) (h1 : ∀ u, st = st' u) (h2 : ∀ u, x = x' u) : callSpec P a st x K = callSpec P (a' ()) (st' ()) (x' ()) K := by rw [← h, ← h1, ← h2]
attribute [congr] opsSpec_cU kdSpec_cU gdSpec_cU dkSpec_cU dgSpec_cU drawSpec_cU cSpec_cU storeSpec_cU appSpec_cU appObSpec_cU appMkSpec_cU copySpec_cU makeSpec_cU callSpec_cU
end
section
variable {M : List Nat} {ds : List (Option Tmp)} {ks : List Nat} {tbl : List (List Nat × St)} {i : Nat} {L : List (List Nat)} {Ls : List (List (List Nat))} {o : Oper} {r : List Oper} {env : List SV} {K : List SV → Prop}
theorem dD_pn (hk : ks.contains i = false) (X : SV) (h1 : ∀ c ∈ L, d1Spec P M ds o env (look tbl c) (fun x => x = X)) (h2 : drawD P M ds ks tbl (i + 1) Ls r (putE env o.dst X) K) : drawD P M ds ks tbl i (L :: Ls) (o :: r) env K := by
  refine ⟨X, ?_, h2⟩
  rw [if_neg (by rw [hk]; decide)]
  exact h1
end
end Go.AL
