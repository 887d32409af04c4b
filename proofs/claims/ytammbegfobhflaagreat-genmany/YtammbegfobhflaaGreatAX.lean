/- The abstract layer, part 49: congruences that count a step by 'rfl' too (an argument 'Unit' makes simp see it), so that what stands behind an operation is not looked at ahead of its time. -/
import Derived.Test.YtammbegfobhflaaGreatA9
import Derived.Test.YtammbegfobhflaaGreatA7
set_option linter.all false
set_option linter.unusedVariables false
namespace Go.AL
variable {P : Program}
section
variable {M : List Nat} {K : SV → St → Prop} {env : List SV} {st : St} {ds : List (Option Tmp)} {l : List Oper} {N : List SV → St → Prop} {o : Oper} {kd : Kd} {g : Bool}
  {env' : Unit → List SV} {st' : Unit → St} {ds' : Unit → List (Option Tmp)} {l' : Unit → List Oper} {kd' : Unit → Kd} {g' : Unit → Bool}
theorem opsSpec_cU (h1 : ∀ u, ds = ds' u) (h2 : ∀ u, l = l' u) (h3 : ∀ u, env = env' u) (h4 : ∀ u, st = st' u) : opsSpec P M ds l env st N = opsSpec P M (ds' ()) (l' ()) (env' ()) (st' ()) N := by rw [← h1, ← h2, ← h3, ← h4]
theorem kdSpec_cU (h3 : ∀ u, env = env' u) (h4 : ∀ u, st = st' u) (h5 : ∀ u, kd = kd' u) : kdSpec P M o env st N kd = kdSpec P M o (env' ()) (st' ()) N (kd' ()) := by rw [← h3, ← h4, ← h5]
theorem gdSpec_cU (h3 : ∀ u, env = env' u) (h4 : ∀ u, st = st' u) (h6 : ∀ u, g = g' u) (h5 : ∀ u, kd = kd' u) : gdSpec P M o env st g N kd = gdSpec P M o (env' ()) (st' ()) (g' ()) N (kd' ()) := by rw [← h3, ← h4, ← h5, ← h6]
theorem dkSpec_cU {N : SV → Prop} (h3 : ∀ u, env = env' u) (h4 : ∀ u, st = st' u) (h5 : ∀ u, kd = kd' u) : dkSpec P M o env st N kd = dkSpec P M o (env' ()) (st' ()) N (kd' ()) := by rw [← h3, ← h4, ← h5]
theorem dgSpec_cU {N : SV → Prop} (h3 : ∀ u, env = env' u) (h4 : ∀ u, st = st' u) (h6 : ∀ u, g = g' u) (h5 : ∀ u, kd = kd' u) : dgSpec P M o env st g N kd = dgSpec P M o (env' ()) (st' ()) (g' ()) N (kd' ()) := by rw [← h3, ← h4, ← h5, ← h6]
theorem drawSpec_cU {N : List SV → Prop} (h1 : ∀ u, ds = ds' u) (h2 : ∀ u, l = l' u) (h3 : ∀ u, env = env' u) (h4 : ∀ u, st = st' u) : drawSpec P M ds l env st N = drawSpec P M (ds' ()) (l' ()) (env' ()) (st' ()) N := by rw [← h1, ← h2, ← h3, ← h4]
theorem cSpec_cU {c : Code} {Q : Exit → List SV → St → Prop} (h3 : ∀ u, env = env' u) (h4 : ∀ u, st = st' u) : cSpec P M c Q env st = cSpec P M c Q (env' ()) (st' ()) := by rw [← h3, ← h4]
variable {x y : SV} {x' y' : Unit → SV} {t tx : TypeId} {a : List SV} {a' : Unit → List SV}
theorem storeSpec_cU {N : St → Prop} (h : ∀ u, st = st' u) (h1 : ∀ u, y = y' u) (h2 : ∀ u, x = x' u) : storeSpec P t st y x N = storeSpec P t (st' ()) (y' ()) (x' ()) N := by rw [← h, ← h1, ← h2]
theorem appSpec_cU (h : ∀ u, st = st' u) (h1 : ∀ u, x = x' u) (h2 : ∀ u, y = y' u) : appSpec P t tx st x y K = appSpec P t tx (st' ()) (x' ()) (y' ()) K := by rw [← h, ← h1, ← h2]
theorem appObSpec_cU (h : ∀ u, st = st' u) (h1 : ∀ u, x = x' u) (h2 : ∀ u, y = y' u) : appObSpec P t tx st x y K = appObSpec P t tx (st' ()) (x' ()) (y' ()) K := by rw [← h, ← h1, ← h2]
theorem appMkSpec_cU (h : ∀ u, st = st' u) (h1 : ∀ u, x = x' u) (h2 : ∀ u, y = y' u) : appMkSpec P t tx st x y K = appMkSpec P t tx (st' ()) (x' ()) (y' ()) K := by rw [← h, ← h1, ← h2]
theorem copySpec_cU (h : ∀ u, st = st' u) (h1 : ∀ u, x = x' u) (h2 : ∀ u, y = y' u) : copySpec P t st x y K = copySpec P t (st' ()) (x' ()) (y' ()) K := by rw [← h, ← h1, ← h2]
theorem makeSpec_cU (h : ∀ u, st = st' u) (h1 : ∀ u, x = x' u) (h2 : ∀ u, y = y' u) : makeSpec P t st x y K = makeSpec P t (st' ()) (x' ()) (y' ()) K := by rw [← h, ← h1, ← h2]
theorem callSpec_cU (h : ∀ u, a = a' u) (h1 : ∀ u, st = st' u) (h2 : ∀ u, x = x' u) : callSpec P a st x K = callSpec P (a' ()) (st' ()) (x' ()) K := by rw [← h, ← h1, ← h2]
attribute [congr] opsSpec_cU kdSpec_cU gdSpec_cU dkSpec_cU dgSpec_cU drawSpec_cU cSpec_cU storeSpec_cU appSpec_cU appObSpec_cU appMkSpec_cU copySpec_cU makeSpec_cU callSpec_cU
end
section
variable {M : List Nat} {ds : List (Option Tmp)} {ks : List Nat} {tbl : List (List Nat × St)} {i : Nat} {L : List (List Nat)} {Ls : List (List (List Nat))} {o : Oper} {r : List Oper} {env : List SV} {K : List SV → Prop}
theorem dD_pn (hk : ks.contains i = false) (X : SV) (h1 : ∀ c ∈ L, d1Spec P M ds o env (look tbl c) (fun x => x = X)) (h2 : drawD P M ds ks tbl (i + 1) Ls r (putE env o.dst X) K) : drawD P M ds ks tbl i (L :: Ls) (o :: r) env K := by
  refine ⟨X, ?_, h2⟩
  rw [if_neg (by rw [hk]; decide)]
  exact h1
end
end Go.AL
set_option linter.unusedVariables false
namespace Go.AL
variable {P : Program}
def FinO (st : St) (T z : Nat) (K : SV → St → Prop) : SV → St → Prop := fun x s => ∃ s1 ex l m z' v, x = .slice m z' l ∧ s = s1 ++ ex ∧ Mod st s1 ∧ s1[T]? = some (.tok v) ∧ K (.slice (.own T (v + 1)) z l) (s1.set T (.tok (v + 1))) ∧
  ((∃ Tn vn, m = .own Tn vn ∧ z' = z ∧ s[Tn]? = some (.tok vn) ∧ s1.length ≤ Tn) ∨ (m = .full ∧ l = [])) ∧ ∀ x ∈ l, ∀ y ∈ x.cells, Ids s1.length y
theorem acalls_keep {f : FuncId} {args : List SV} {K : SV → St → Prop} {st : St} {T z : Nat} (h : ACalls P f args (FinO st T z K) st) : ACalls P f args K st := by
  intro σ w vs hI hR
  refine (h σ w vs hI hR).mono ?_
  rintro e w' ⟨val, x, s, σ', he, ⟨s1, ex, l, m, z', v, rfl, rfl, hm, hT, hk, hc, hids⟩, hI', hr, hX⟩
  have hob : ∀ (id : Nat) (o : Ob), s1[id]? = some o → ObIds s1.length o := fun id o ho => (hm.all id o ho).elim (fun h1 => (hI.obIds id o h1).mono hm.len) fun h => h
  have hlt := lt_of_get hT
  have hI1 : Inv s1 σ' w' := hI'.drop hob
  have hX1 : Ext st σ w s1 σ' w' := hX.drop hm.len
  have hget : (s1.set T (.tok (v + 1)))[T]? = some (.tok (v + 1)) := set_get hlt
  rcases hc with ⟨Tn, vn, rfl, rfl, hN, hle⟩ | ⟨rfl, rfl⟩
  · have hside : ∀ c, σ'.μ Tn = some c → c < w'.heap.size ∧ (σ'.lock c).still = false ∧ ∀ i, i < s1.length → i ≠ T → σ'.μ i ≠ some c := fun c hc => by
      obtain ⟨a1, a2⟩ := hI'.tok _ _ _ hN hc
      refine ⟨a1, a2, fun i hi _ hmu => ?_⟩
      have := hI'.inj i Tn c (by rw [List.length_append]; omega) (lt_of_get hN) hmu hc
      omega
    have hI2 := hI1.tokNew hT (σ'.μ Tn) hside
    have hX2 := Ext.tokNew (σ := σ') (w := w') hT (σ'.μ Tn)
    refine ⟨val, _, _, _, he, hk, hI2, ?_, hX1.trans hX2⟩
    generalize hx : SV.slice (.own Tn vn) z' l = x at hr
    cases hr with
    | nil m z hm => cases hx; exact .nil _ _ ⟨v + 1, hget, Nat.le_refl _⟩
    | slice m z l a cap vals hcap hsp hzz hc hr hm =>
      cases hx
      refine .slice _ _ _ _ _ vals hcap hsp hzz hc (fun i j hi hj => ?_) ⟨v + 1, hget, Nat.le_refl _, fun _ => ?_⟩
      · have e1 : l.getD i .any = l[i] := by simp [List.getD_eq_getElem?_getD, hi]
        have hj' : j < (l.getD i .any).cells.length := by rw [hzz i hi]; exact hj
        refine ((hr i j hi hj).drop ?_).ext hX2
        rw [e1] at hj' ⊢
        have e2 : (l[i].cells.getD j .any) = l[i].cells[j] := by simp [List.getD_eq_getElem?_getD, hj']
        rw [e2]
        exact hids _ (List.getElem_mem hi) _ (List.getElem_mem hj')
      · obtain ⟨v0, g1, g2, g3⟩ := hm
        rw [hN] at g1; cases g1
        rcases g3 rfl with h | ⟨h1, h2, h3⟩
        · exact .inl h
        · exact .inr ⟨h1, by simp only [Sig.setMu, if_true]; exact h2, h3⟩
    | _ => cases hx
  · have hI2 := hI1.tokNew hT none (fun c hc => by cases hc)
    have hX2 := Ext.tokNew (σ := σ') (w := w') hT none
    refine ⟨val, _, _, _, he, hk, hI2, ?_, hX1.trans hX2⟩
    generalize hl : ([] : List SV) = l at hr
    generalize hx : SV.slice .full z' l = x at hr
    cases hr with
    | nil m z hm => cases hx; exact .nil _ _ ⟨v + 1, hget, Nat.le_refl _⟩
    | slice m z l a cap vals hcap hsp hzz hc hr hm =>
      cases hx
      subst hl
      exact .slice _ _ [] _ _ vals hcap (fun h => absurd rfl h) (fun i hi => by cases hi) (fun i j hi => by cases hi) (fun i j hi => by cases hi) ⟨v + 1, hget, Nat.le_refl _, fun _ => .inl hm⟩
    | _ => cases hx
theorem acalls_goO {M : List Nat} {f : FuncId} {fn : Func} {c : Code} {rs : Array ResultVar} {n : Nat} {args : List SV} {K : SV → St → Prop} {st : St} (T z : Nat) (hf : P.funcs[f]? = some fn) (hb : fn.body = some c)
    (hr : fn.results = rs) (hn : fn.ntmps = n) (h : cSpec P M c (RetR P rs.toList (FinO st T z K)) (args ++ List.replicate (n - args.length) .any) st) : ACalls P f args K st := acalls_keep (acalls_go hf hb hr hn h)
end Go.AL
