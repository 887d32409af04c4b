/- The abstract layer, part 25: regions that draw, where turners may change places: what the objects are is told by what is done. -/
import Derived.Test.YtammbegfobhflaaGreatA6
import Derived.WalkKit
import Derived.ProofKit
import Derived.OpenShut
import Derived.Below
set_option linter.all false
set_option linter.unusedVariables false
namespace Go.AL
variable {P : Program}
def upd (f : Nat → Bool) (i : Nat) : Nat → Bool := fun k => if k = i then true else f k
def Listed (ops : Array Oper) (f : Nat → Bool) (i : Nat) : Prop :=
  (∀ k, f k = true → ∀ p, ops[k]? = some p → ∀ e, e ∈ p.after.toList → Region.binds .any e = true → f e.on = true) ∧ f i = false ∧ (∀ p, ops[i]? = some p → ∀ e, e ∈ p.after.toList → Region.binds .any e = true → f e.on = true)
def drawS (P : Program) (M : List Nat) (ops : Array Oper) (ks : List Nat) (S : (Nat → Bool) → St) : Nat → List Oper → List SV → (List SV → Prop) → Prop
  | _, [], env, K => K env
  | i, o :: r, env, K => ∃ X, (if ks.contains i then o.guard = none ∧ ∀ f, Listed ops f i → effSpec P M o (onlyAt (opTmps o.op.operands.toList) 0 env) (S f) (fun x s => x = X ∧ s = S (upd f i))
      else ∀ f, Listed ops f i → d1Spec P M (ops.toList.map (·.dst)) o env (S f) (fun x => x = X)) ∧ drawS P M ops ks S (i + 1) r (putE env o.dst X) K
theorem chainS {M : List Nat} {ops : Array Oper} {ks : List Nat} {S : (Nat → Bool) → St} {K : List SV → Prop} : ∀ (n : Nat) (l : List Oper) (env : List SV), ops.toList.drop n = l →
    drawS P M ops ks S n l env K →
    ∃ (F : Nat → List SV) (X : Nat → SV), F n = env ∧
      (∀ i o, n ≤ i → ops[i]? = some o → F (i + 1) = putE (F i) o.dst (X i) ∧
        (if ks.contains i then ∀ f, Listed ops f i → EffFact P ops (S f) (S (upd f i)) o (F i) (X i) else ∀ f, Listed ops f i → OpFact P ops (S f) o (F i) (X i))) ∧
      K (F (n + l.length))
  | n, [], env, hl, h => by
    refine ⟨fun _ => env, fun _ => .any, rfl, fun i o hi ho => ?_, h⟩
    have h1 := lt_of_some ho
    have h2 := congrArg List.length hl
    simp at h2
    omega
  | n, o :: r, env, hl, h => by
    have ho : ops[n]? = some o := by
      have : (ops.toList.drop n)[0]? = some o := by rw [hl]; rfl
      rw [List.getElem?_drop, Nat.add_zero, Array.getElem?_toList] at this
      exact this
    have hr : ops.toList.drop (n + 1) = r := by rw [← List.drop_drop, hl]; rfl
    simp only [drawS] at h
    obtain ⟨X0, h1, h2⟩ := h
    obtain ⟨F, X, f1, f4, f5⟩ := chainS (n + 1) r _ hr h2
    refine ⟨fun i => if i = n then env else F i, fun i => if i = n then X0 else X i, by simp, fun i p hi hp => ?_, ?_⟩
    · by_cases e : i = n
      · subst e
        rw [ho] at hp; cases hp
        simp only [if_true, show ¬ i + 1 = i by omega, if_false]
        refine ⟨f1, ?_⟩
        by_cases hk : ks.contains i = true
        · rw [if_pos hk] at h1 ⊢
          intro f hf σ w a env' hI hR hs hlen
          refine ⟨h1.1, fun _ _ _ => False, fun _ _ _ h => h, ?_⟩
          refine upon_mono ?_ (fun _ _ _ h => h) (aop_eff (h1.2 f hf) σ w a hI (rep_only hR hs hlen))
          rintro a' w' ⟨v, x, s1, σ', rfl, ⟨rfl, rfl⟩, hI', hr', hX⟩
          exact ⟨v, σ', rfl, hI', hX, hr'⟩
        · rw [if_neg hk] at h1 ⊢
          intro f hf
          obtain ⟨X1, g1, rfl⟩ := fact_of (h1 f hf)
          exact g1
      · simp only [if_neg e, show ¬ i + 1 = n by omega, if_false]
        exact f4 i p (by omega) hp
    · simp only [List.length_cons]
      rw [if_neg (by omega), show n + (r.length + 1) = n + 1 + r.length by omega]
      exact f5
theorem awp_drawS (M : List Nat) (ks : List Nat) (S : (Nat → Bool) → St) {id : Nat} {ops : Array Oper} {Q : Exit → List SV → St → Prop} {env : List SV} {st : St} (hm : P.follows .mixedOrders = true) (hf : flowOk ops = true)
    (hS0 : S (fun _ => false) = st) (hSk : ∀ f i, ks.contains i = false → S (upd f i) = S f) (h : drawS P M ops ks S 0 ops.toList env fun e => Q .normal e (S fun i => decide (i < ops.size))) : AWp P (.region id ops true) Q env st := by
  intro σ w a hI hR D hd
  obtain ⟨F, X, f1, f2', f3⟩ := chainS 0 ops.toList env rfl h
  simp only [Nat.zero_add, Array.length_toList] at f3
  have f2 : ∀ i o, 0 ≤ i → ops[i]? = some o → True ∧ F (i + 1) = putE (F i) o.dst (X i) := fun i o hi ho => ⟨trivial, (f2' i o hi ho).1⟩
  have hflow : ∀ i j p q, ops[i]? = some p → ops[j]? = some q → i ≠ j → ∀ t, q.dst = some t → (t ∈ looks ops p → if j < i then dirEdge p j = true else dirEdge q i = true) ∧ p.dst ≠ some t := by
    intro i j p q hp hq hne t ht
    have h1 := lt_of_some hp
    have h2 := lt_of_some hq
    unfold flowOk at hf
    rw [List.all_eq_true] at hf
    have h3 := hf i (by simpa using h1)
    simp only [Bool.and_eq_true, List.all_eq_true] at h3
    have h4 := h3.1 j (by simpa using h2)
    unfold flowAt at h4
    rw [hp, hq] at h4
    simp only [ht, Bool.or_eq_true, beq_iff_eq, Bool.and_eq_true, Bool.not_eq_true', bne_iff_ne, ne_eq] at h4
    rcases h4 with h4 | ⟨h4, h5⟩
    · exact absurd h4 hne
    · refine ⟨fun hlk => ?_, h5⟩
      rcases h4 with h4 | h4
      · simp [hlk] at h4
      · split <;> rename_i hji <;> simpa [hji] using h4
  have hback : ∀ i p, ops[i]? = some p → ∀ e, e ∈ p.after.toList → Region.binds .any e = true → e.on < i := by
    intro i p hp e he hb
    have h1 := lt_of_some hp
    unfold flowOk at hf
    rw [List.all_eq_true] at hf
    have h3 := hf i (by simpa using h1)
    simp only [Bool.and_eq_true, hp, Option.map_some, Option.getD_some, List.all_eq_true] at h3
    have h4 := h3.2 e he
    simpa [hb] using h4
  have flen : ∀ i, i ≤ ops.size → (F i).length = env.length := by
    intro i
    induction i with
    | zero => intro _; rw [f1]
    | succ i ih =>
      intro hi
      have hp : ops[i]? = some ops[i] := by simp [show i < ops.size by omega]
      rw [(f2 i _ (Nat.zero_le _) hp).2, length_putE, ih (by omega)]
  have fget : ∀ i, i ≤ ops.size → ∀ t, t < env.length → (∀ j, j < i → writes ops j t = true → (F i).getD t .any = X j) ∧ ((∀ j, j < i → writes ops j t = false) → (F i).getD t .any = env.getD t .any) := by
    intro i
    induction i with
    | zero => intro _ t ht; exact ⟨fun j hj => absurd hj (Nat.not_lt_zero _), fun _ => by rw [f1]⟩
    | succ i ih =>
      intro hi t ht
      obtain ⟨ih1, ih2⟩ := ih (by omega) t ht
      have hp : ops[i]? = some ops[i] := by simp [show i < ops.size by omega]
      have he := (f2 i _ (Nat.zero_le _) hp).2
      have hg : (F (i + 1)).getD t .any = if ops[i].dst = some t then X i else (F i).getD t .any := by rw [he]; exact putE_get (by rw [flen i (by omega)]; exact ht)
      have hwi : writes ops i t = true ↔ ops[i].dst = some t := by simp [writes, hp]
      refine ⟨fun j hj hw => ?_, fun hno => ?_⟩
      · rw [hg]
        by_cases c : ops[i].dst = some t
        · rw [if_pos c]
          by_cases e : j = i
          · rw [e]
          · have hjl : j < ops.size := by omega
            have hq : ops[j]? = some ops[j] := by simp [hjl]
            have hjd : ops[j].dst = some t := by simpa [writes, hq] using hw
            exact absurd c (hflow i j _ _ hp hq (by omega) t hjd).2
        · rw [if_neg c]
          have e : j ≠ i := by rintro rfl; exact c (hwi.1 hw)
          exact ih1 j (by omega) hw
      · rw [hg, if_neg (fun c => by have := hno i (by omega); rw [hwi.2 c] at this; cases this)]
        exact ih2 fun j hj => hno j (by omega)
  let fl : Array Bool → Nat → Bool := fun listed k => listed.getD k false
  let Inv' : Array Bool → Act → World → Prop := fun listed a' w' => ∃ σ', Inv (S (fl listed)) σ' w' ∧ Ext st σ w (S (fl listed)) σ' w' ∧ a'.defers = D ∧ listed.size = ops.size ∧
    RepEnv (S (fl listed)) σ' w' (mixE ops listed env (F ops.size)) a'.tmps ∧ ∀ i, listed.getD i false = true → ∀ p, ops[i]? = some p → ∀ e, e ∈ p.after.toList → Region.binds .any e = true → listed.getD e.on false = true
  have key : ∀ (fuel : Nat) (listed : Array Bool) (a' : Act) (w' : World), ((List.range ops.size).filter fun j => !listed.getD j false).length = fuel → Inv' listed a' w' →
      wpAny P .any ops (fun e a' w' => Post D (Q e) st σ w a' w') fuel listed a' w' := by
    intro fuel
    induction fuel with
    | zero =>
      intro listed a' w' hc hI'
      obtain ⟨σ', i1, i2, i3, i4, i5, i6⟩ := hI'
      have hall : ∀ j, j < ops.size → listed.getD j false = true := by
        intro j hj
        have h0 : (List.range ops.size).filter (fun j => !listed.getD j false) = [] := List.eq_nil_of_length_eq_zero hc
        rw [List.filter_eq_nil_iff] at h0
        simpa using h0 j (by simpa using hj)
      have hnx : fl listed = fun i => decide (i < ops.size) := by
        funext k
        by_cases hk : k < ops.size
        · simp only [fl, hall k hk, hk, decide_true]
        · simp only [fl, hk, decide_false]
          rw [Array.getD_eq_getD_getElem?, Array.getElem?_eq_none (by omega)]; rfl
      rw [hnx] at i1 i2 i5
      refine ⟨?_, i3, mixE ops listed env (F ops.size), S _, σ', ?_, i1, i5, i2⟩
      · unfold Region.ready
        rw [List.filter_eq_nil_iff]
        intro j hj
        have hj' : j < ops.size := by simpa using hj
        have h1 := hall j hj'
        have : listed.getD j true = true := by
          rw [Array.getD_eq_getD_getElem?] at h1 ⊢
          rw [Array.getElem?_eq_getElem (by omega)] at h1 ⊢
          exact h1
        simp [this]
      · have e : mixE ops listed env (F ops.size) = F ops.size := by
          apply List.ext_getElem?
          intro t
          by_cases ht : t < env.length
          · have h1 := getD_mixE (ops := ops) (listed := listed) (eN := F ops.size) ht
            have hl1 : t < (mixE ops listed env (F ops.size)).length := by rw [length_mixE]; exact ht
            have hl2 : t < (F ops.size).length := by rw [flen _ (Nat.le_refl _)]; exact ht
            rw [List.getElem?_eq_getElem hl1, List.getElem?_eq_getElem hl2]
            simp only [List.getD_eq_getElem?_getD, List.getElem?_eq_getElem hl1, List.getElem?_eq_getElem hl2, Option.getD_some] at h1
            rw [h1]
            split
            · rfl
            · rename_i hno
              have h2 := (fget ops.size (Nat.le_refl _) t ht).2 (fun j hj => by
                cases hw : writes ops j t with
                | false => rfl
                | true =>
                  exfalso
                  apply hno
                  unfold wr
                  rw [List.any_eq_true]
                  exact ⟨j, by simpa using hj, by rw [hall j hj, hw]; rfl⟩)
              simp only [List.getD_eq_getElem?_getD, List.getElem?_eq_getElem hl2, Option.getD_some] at h2
              rw [h2]
          · rw [List.getElem?_eq_none (by rw [length_mixE]; omega), List.getElem?_eq_none (by rw [flen _ (Nat.le_refl _)]; omega)]
        rw [e]
        exact f3
    | succ fuel ih =>
      intro listed a' w' hc hI'
      obtain ⟨σ', i1, i2, i3, i4, i5, i6⟩ := hI'
      have hready : ∀ i, i ∈ Region.ready .any ops listed ↔ i < ops.size ∧ listed.getD i true = false ∧ ∀ p, ops[i]? = some p → ∀ e, e ∈ p.after.toList → Region.binds .any e = true → listed.getD e.on false = true := by
        intro i
        unfold Region.ready
        rw [List.mem_filter]
        constructor
        · rintro ⟨h1, h2⟩
          have h1' : i < ops.size := by simpa using h1
          simp only [Bool.and_eq_true, Bool.not_eq_true'] at h2
          refine ⟨h1', h2.1, fun p hp e he hb => ?_⟩
          have h3 := h2.2
          rw [hp] at h3
          simp only [Option.map_some, Option.getD_some, Array.all_eq_true'] at h3
          have := h3 e (by simpa using he)
          simpa [hb] using this
        · rintro ⟨h1, h2, h3⟩
          refine ⟨by simpa using h1, ?_⟩
          have hp : ops[i]? = some ops[i] := by simp [h1]
          simp only [h2, hp, Option.map_some, Option.getD_some, Bool.not_false, Bool.true_and, Array.all_eq_true']
          intro e he
          cases hb : Region.binds .any e with
          | false => rfl
          | true => simpa using h3 _ hp e (by simpa using he) hb
      refine ⟨fun hnil => ?_, fun i hi => ?_⟩
      · -- the least one that is not listed is ready
        exfalso
        have hex : ∃ j, j < ops.size ∧ listed.getD j false = false := by
          have hne : (List.range ops.size).filter (fun j => !listed.getD j false) ≠ [] := by intro h0; rw [h0] at hc; cases hc
          obtain ⟨j, hj⟩ := List.exists_mem_of_ne_nil _ hne
          rw [List.mem_filter] at hj
          exact ⟨j, by simpa using hj.1, by simpa using hj.2⟩
        obtain ⟨j, hj1, hj2⟩ := hex
        have least : ∀ n, ∀ j, j ≤ n → j < ops.size → listed.getD j false = false → ∃ i, i < ops.size ∧ listed.getD i false = false ∧ ∀ k, k < i → listed.getD k false = true := by
          intro n
          induction n with
          | zero =>
            intro j hj h1 h2
            exact ⟨j, h1, h2, fun k hk => by omega⟩
          | succ n ihn =>
            intro j hj h1 h2
            by_cases c : ∃ k, k < j ∧ listed.getD k false = false
            · obtain ⟨k, hk1, hk2⟩ := c
              exact ihn k (by omega) (by omega) hk2
            · refine ⟨j, h1, h2, fun k hk => ?_⟩
              cases hv : listed.getD k false with
              | true => rfl
              | false => exact absurd ⟨k, hk, hv⟩ c
        obtain ⟨i, hi1, hi2, hi3⟩ := least j j (Nat.le_refl _) hj1 hj2
        have : i ∈ Region.ready .any ops listed := (hready i).2 ⟨hi1, by
          rw [Array.getD_eq_getD_getElem?] at hi2 ⊢
          rw [Array.getElem?_eq_getElem (by omega)] at hi2 ⊢
          exact hi2, fun p hp e he hb => hi3 _ (hback i p hp e he hb)⟩
        rw [hnil] at this
        cases this
      · obtain ⟨hi1, hi2, hi3⟩ := (hready i).1 hi
        have hp : ops[i]? = some ops[i] := by simp [hi1]
        have hnl : listed.getD i false = false := by
          rw [Array.getD_eq_getD_getElem?] at hi2 ⊢
          rw [Array.getElem?_eq_getElem (by omega)] at hi2 ⊢
          exact hi2
        obtain ⟨hnext, hfact⟩ := f2' i _ (Nat.zero_le _) hp
        have hagree : ∀ t ∈ looks ops ops[i], (mixE ops listed env (F ops.size)).getD t .any = (F i).getD t .any := by
          intro t ht
          by_cases hlt : t < env.length
          · rw [getD_mixE hlt]
            obtain ⟨g1, g2⟩ := fget i (by omega) t hlt
            obtain ⟨gN1, gN2⟩ := fget ops.size (Nat.le_refl _) t hlt
            by_cases c : ∃ j, j < i ∧ writes ops j t = true
            · obtain ⟨j, hj, hw⟩ := c
              have hjl : j < ops.size := by omega
              have hq : ops[j]? = some ops[j] := by simp [hjl]
              have hjd : ops[j].dst = some t := by simpa [writes, hq] using hw
              have hedge := (hflow i j _ _ hp hq (by omega) t hjd).1 ht
              rw [if_pos hj] at hedge
              have hlj : listed.getD j false = true := by
                unfold dirEdge at hedge
                rw [List.any_eq_true] at hedge
                obtain ⟨e, he1, he2⟩ := hedge
                simp only [Bool.and_eq_true, beq_iff_eq] at he2
                have := hi3 _ hp e he1 he2.1
                rwa [he2.2] at this
              rw [if_pos (by unfold wr; rw [List.any_eq_true]; exact ⟨j, by simpa using hjl, by rw [hlj, hw]; rfl⟩), g1 j hj hw, gN1 j hjl hw]
            · rw [g2 fun j hj => by
                cases hw : writes ops j t with
                | false => rfl
                | true => exact absurd ⟨j, hj, hw⟩ c]
              rw [if_neg]
              intro hwr
              unfold wr at hwr
              rw [List.any_eq_true] at hwr
              obtain ⟨j, hj1, hj2⟩ := hwr
              simp only [Bool.and_eq_true] at hj2
              have hjl : j < ops.size := by simpa using hj1
              have hq : ops[j]? = some ops[j] := by simp [hjl]
              have hjd : ops[j].dst = some t := by simpa [writes, hq] using hj2.2
              have hne : i ≠ j := by rintro rfl; rw [hj2.1] at hnl; cases hnl
              have hnji : ¬ j < i := fun hji => c ⟨j, hji, hj2.2⟩
              have hedge := (hflow i j _ _ hp hq hne t hjd).1 ht
              rw [if_neg hnji] at hedge
              unfold dirEdge at hedge
              rw [List.any_eq_true] at hedge
              obtain ⟨e, he1, he2⟩ := hedge
              simp only [Bool.and_eq_true, beq_iff_eq] at he2
              have := i6 j hj2.1 _ hq e he1 he2.1
              rw [he2.2, hnl] at this
              cases this
          · rw [List.getD_eq_getElem?_getD, List.getD_eq_getElem?_getD, List.getElem?_eq_none (by rw [length_mixE]; omega), List.getElem?_eq_none (by rw [flen i (by omega)]; omega)]
        have glF : fl (listed.setIfInBounds i true) = upd (fl listed) i := by
          funext k
          simp only [fl, upd]
          rw [Array.getD_eq_getD_getElem?, Array.getD_eq_getD_getElem?]
          by_cases e : i = k
          · subst e; simp [show i < listed.size by omega]
          · rw [Array.getElem?_setIfInBounds_ne e, if_neg (fun h => e h.symm)]
        have hLi : Listed ops (fl listed) i := ⟨fun k hk p hp' e he hb => i6 k hk p hp' e he hb, hnl, fun p hp' e he hb => hi3 p hp' e he hb⟩
        have hdone : ∀ (v : Value) (σ2 : Sig) (w2 : World) (s2 : St), s2 = S (fl (listed.setIfInBounds i true)) → Inv s2 σ2 w2 → Ext (S (fl listed)) σ' w' s2 σ2 w2 → Rep s2 σ2 w2 (X i) v →
            Inv' (listed.setIfInBounds i true) (a'.put ops[i].dst v) w2 := by
          intro v σ2 w2 s2 es2 hI2 hX2 hr2
          subst es2
          have gl : ∀ k, (listed.setIfInBounds i true).getD k false = if k = i then true else listed.getD k false := by
            intro k
            rw [Array.getD_eq_getD_getElem?, Array.getD_eq_getD_getElem?]
            by_cases e : i = k
            · subst e; simp [show i < listed.size by omega]
            · rw [Array.getElem?_setIfInBounds_ne e, if_neg (fun h => e h.symm)]
          have hRE := i5.ext hX2
          refine ⟨σ2, hI2, i2.trans hX2, by rw [put_defers]; exact i3, by simpa using i4, ⟨?_, fun t ht => ?_⟩, fun k hk p hp' e he hb => ?_⟩
          · rw [length_mixE]
            have := hRE.1
            rw [length_mixE] at this
            cases ops[i].dst with
            | none => exact this
            | some d => simpa [Act.put] using this
          · rw [length_mixE] at ht
            have hput := rep_put hRE ops[i].dst hr2
            have h1 := hput.2 t (by rw [length_putE, length_mixE]; exact ht)
            rw [putE_get (by rw [length_mixE]; exact ht)] at h1
            have e : (mixE ops (listed.setIfInBounds i true) env (F ops.size)).getD t .any = if ops[i].dst = some t then X i else (mixE ops listed env (F ops.size)).getD t .any := by
              rw [getD_mixE ht, getD_mixE ht]
              obtain ⟨gN1, gN2⟩ := fget ops.size (Nat.le_refl _) t ht
              by_cases c : ops[i].dst = some t
              · rw [if_pos c, if_pos]
                · exact gN1 i hi1 (by simp [writes, hp, c])
                · unfold wr
                  rw [List.any_eq_true]
                  exact ⟨i, by simpa using hi1, by rw [gl, if_pos rfl]; simp [writes, hp, c]⟩
              · rw [if_neg c]
                have e2 : wr ops (listed.setIfInBounds i true) t = wr ops listed t := by
                  unfold wr
                  apply Bool.eq_iff_iff.2
                  rw [List.any_eq_true, List.any_eq_true]
                  constructor
                  · rintro ⟨j, hj1, hj2⟩
                    simp only [Bool.and_eq_true] at hj2
                    refine ⟨j, hj1, ?_⟩
                    rw [gl] at hj2
                    by_cases ej : j = i
                    · subst ej; exact absurd (by simpa [writes, hp] using hj2.2) c
                    · rw [if_neg ej] at hj2; simp [hj2.1, hj2.2]
                  · rintro ⟨j, hj1, hj2⟩
                    simp only [Bool.and_eq_true] at hj2
                    refine ⟨j, hj1, ?_⟩
                    rw [gl]
                    split <;> simp [hj2.1, hj2.2]
                rw [e2]
            rw [e]
            exact h1
          · rw [gl] at hk ⊢
            split
            · rfl
            · by_cases ek : k = i
              · subst ek
                rw [hp] at hp'; cases hp'
                exact hi3 _ hp e he hb
              · rw [if_neg ek] at hk
                exact i6 k hk p hp' e he hb
        have hcount : ((List.range ops.size).filter fun j => !(listed.setIfInBounds i true).getD j false).length = fuel := by
          have h1 : ((List.range ops.size).filter fun j => !listed.getD j false) = (List.range ops.size).filter fun j => !listed.getD j false := rfl
          have hperm : ∀ l : List Nat, l.Nodup → i ∈ l → (l.filter fun j => !listed.getD j false).length = (l.filter fun j => !(listed.setIfInBounds i true).getD j false).length + 1 := by
            intro l
            have gl : ∀ k, (listed.setIfInBounds i true).getD k false = if k = i then true else listed.getD k false := by
              intro k
              rw [Array.getD_eq_getD_getElem?, Array.getD_eq_getD_getElem?]
              by_cases e : i = k
              · subst e; simp [show i < listed.size by omega]
              · rw [Array.getElem?_setIfInBounds_ne e, if_neg (fun h => e h.symm)]
            induction l with
            | nil => intro _ h; cases h
            | cons x r ihr =>
              intro hnd hmem
              rw [List.nodup_cons] at hnd
              by_cases e : x = i
              · subst e
                have hrest : (r.filter fun j => !listed.getD j false) = r.filter fun j => !(listed.setIfInBounds x true).getD j false := by
                  apply List.filter_congr
                  intro j hj
                  rw [gl, if_neg (by rintro rfl; exact hnd.1 hj)]
                rw [List.filter_cons, List.filter_cons, if_pos (by rw [hnl]; rfl), if_neg (by rw [gl, if_pos rfl]; decide), hrest]
                simp
              · have hm : i ∈ r := by
                  cases hmem with
                  | head => exact absurd rfl e
                  | tail _ h => exact h
                have := ihr hnd.2 hm
                simp only [List.filter_cons, gl x, if_neg e]
                split <;> simp only [List.length_cons, this]
          have := hperm _ List.nodup_range (by simpa using hi1)
          omega
        have gl : ∀ k, (listed.setIfInBounds i true).getD k false = if k = i then true else listed.getD k false := by
          intro k
          rw [Array.getD_eq_getD_getElem?, Array.getD_eq_getD_getElem?]
          by_cases e : i = k
          · subst e; simp [show i < listed.size by omega]
          · rw [Array.getElem?_setIfInBounds_ne e, if_neg (fun h => e h.symm)]
        have hlook := hagree
        unfold wpOp
        rw [hp]
        simp only
        by_cases hk : ks.contains i = true
        · -- one that turns the objects
          rw [if_pos hk] at hfact
          obtain ⟨hgn, Q0, hq0, hwp⟩ := hfact _ hLi σ' w' a' _ i1 i5 hlook (by rw [length_mixE, flen i (by omega)])
          have hwt : Region.wanted ops[i] (yielded ops a'.tmps) = true := by simp [Region.wanted, hgn]
          simp only [hwt, if_true]
          refine .inl (upon_mono ?_ (fun e a w h => absurd h (hq0 e a w)) hwp)
          rintro a2 w2 ⟨v, σ2, rfl, hI2, hX2, hr2⟩
          exact ih _ _ _ hcount (hdone v σ2 w2 _ (by rw [glF]) hI2 hX2 hr2)
        · rw [if_neg hk] at hfact
          have hnx : S (fl (listed.setIfInBounds i true)) = S (fl listed) := by rw [glF]; exact hSk _ _ (by simpa using hk)
          obtain ⟨hrun, hskip⟩ := hfact _ hLi σ' w' a' _ i1 i5 hlook (by rw [length_mixE, flen i (by omega)])
          cases hwt : Region.wanted ops[i] (yielded ops a'.tmps) with
          | true =>
            simp only [if_true]
            obtain ⟨Q0, hq0, hwp⟩ := hrun hwt
            refine .inl (upon_mono ?_ (fun e a w h => absurd h (hq0 e a w)) hwp)
            rintro a2 w2 ⟨v, σ2, rfl, hI2, hX2, hr2⟩
            exact ih _ _ _ hcount (hdone v σ2 w2 _ (by rw [hnx]) hI2 hX2 hr2)
          | false =>
            simp only [Bool.false_eq_true, if_false]
            exact ih _ _ _ hcount (hdone undef σ' w' _ (by rw [hnx]) i1 (Ext.refl _ _ _) (hskip hwt))
  have hd0 : Ext st σ w st σ { w with drawn := w.drawn + 1 } := Ext.drew _
  have hg0 : S (fl (Array.replicate ops.size false)) = st := by
    rw [← hS0]
    congr 1
    funext k
    simp [fl, Array.getD]
  refine wp_region_any hm (key ops.size _ a _ ?_ ⟨σ, by rw [hg0]; exact hI.drew _, by rw [hg0]; exact hd0, hd, by simp, ?_, fun i hi => ?_⟩)
  · have : ((List.range ops.size).filter fun j => !(Array.replicate ops.size false).getD j false) = List.range ops.size := by
      apply List.filter_eq_self.2
      intro j hj
      simp [Array.getD]
    rw [this]; simp
  · have e : mixE ops (Array.replicate ops.size false) env (F ops.size) = env := by
      apply List.ext_getElem?
      intro t
      by_cases ht : t < env.length
      · have hw : wr ops (Array.replicate ops.size false) t = false := by
          unfold wr
          rw [List.any_eq_false]
          intro j hj
          simp [Array.getD]
        simp [mixE, hw, ht]
      · rw [List.getElem?_eq_none (by rw [length_mixE]; omega), List.getElem?_eq_none (by omega)]
    rw [e, hg0]
    exact hR.ext hd0
  · simp [Array.getD] at hi
def eqN : List Nat → List Nat → Bool
  | [], [] => true
  | a :: b, c :: d => decide (a = c) && eqN b d
  | _, _ => false
def look : List (List Nat × St) → List Nat → St
  | [], _ => []
  | (c, s) :: r, d => if eqN c d = true then s else look r d
@[go_sem] theorem eqN_nil : eqN [] [] = true := rfl
@[go_sem] theorem eqN_l (a : Nat) (b : List Nat) : eqN (a :: b) [] = false := rfl
@[go_sem] theorem eqN_r (a : Nat) (b : List Nat) : eqN [] (a :: b) = false := rfl
@[go_sem] theorem eqN_c (a c : Nat) (b d : List Nat) : eqN (a :: b) (c :: d) = (decide (a = c) && eqN b d) := rfl
@[go_sem] theorem look_c (c d : List Nat) (s : St) (r : List (List Nat × St)) : look ((c, s) :: r) d = if eqN c d = true then s else look r d := rfl
def ins (ks c : List Nat) (i : Nat) : List Nat := ks.filter fun k => c.contains k || k == i
def subs : List Nat → List (List Nat)
  | [] => [[]]
  | k :: r => subs r ++ (subs r).map (k :: ·)
def alw (ops : Array Oper) (ks : List Nat) (i : Nat) : List (List Nat) :=
  (subs ks).filter fun c => ks.all fun k => if c.contains k then k != i && !ancB ops ops.size k i && ks.all (fun j => c.contains j || !ancB ops ops.size k j) else !ancB ops ops.size i k
def drawD (P : Program) (M : List Nat) (ds : List (Option Tmp)) (ks : List Nat) (tbl : List (List Nat × St)) : Nat → List (List (List Nat)) → List Oper → List SV → (List SV → Prop) → Prop
  | _, _, [], env, K => K env
  | i, L :: Ls, o :: r, env, K => ∃ X, (if ks.contains i then o.guard = none ∧ ∀ c ∈ L, effSpec P M o (onlyAt (opTmps o.op.operands.toList) 0 env) (look tbl c) (fun x s => x = X ∧ s = look tbl (ins ks c i))
      else ∀ c ∈ L, d1Spec P M ds o env (look tbl c) (fun x => x = X)) ∧ drawD P M ds ks tbl (i + 1) Ls r (putE env o.dst X) K
  | _, [], _ :: _, _, _ => False
theorem subs_filter (f : Nat → Bool) : ∀ ks : List Nat, ks.filter f ∈ subs ks
  | [] => by simp [subs]
  | k :: r => by
    have := subs_filter f r
    simp only [subs, List.filter_cons, List.mem_append, List.mem_map]
    split
    · exact .inr ⟨_, this, rfl⟩
    · exact .inl this
theorem anc_flag {ops : Array Oper} {f : Nat → Bool} (hcl : ∀ k, f k = true → ∀ p, ops[k]? = some p → ∀ e, e ∈ p.after.toList → Region.binds .any e = true → f e.on = true) :
    ∀ (n i j : Nat), (∀ p, ops[i]? = some p → ∀ e, e ∈ p.after.toList → Region.binds .any e = true → f e.on = true) → ancB ops n i j = true → f j = true
  | 0, i, j, _, h => by cases h
  | n + 1, i, j, hi, h => by
    simp only [ancB] at h
    split at h
    · rename_i o ho
      rw [List.any_eq_true] at h
      obtain ⟨e, he, h⟩ := h
      simp only [Bool.and_eq_true, Bool.or_eq_true, beq_iff_eq] at h
      have h1 := hi o ho e he h.1
      rcases h.2 with h2 | h2
      · rw [← h2]; exact h1
      · exact anc_flag hcl n e.on j (fun p hp e' he' hb => hcl e.on h1 p hp e' he' hb) h2
    · cases h
theorem alw_mem {ops : Array Oper} {ks : List Nat} {f : Nat → Bool} {i : Nat} (h : Listed ops f i) : ks.filter f ∈ alw ops ks i := by
  obtain ⟨h1, h2, h3⟩ := h
  unfold alw
  rw [List.mem_filter]
  refine ⟨subs_filter f ks, ?_⟩
  rw [List.all_eq_true]
  intro k hk
  by_cases hf : f k = true
  · have hc : (ks.filter f).contains k = true := by simp [hk, hf]
    rw [if_pos hc]
    simp only [Bool.and_eq_true, bne_iff_ne, ne_eq, Bool.not_eq_true', List.all_eq_true, Bool.or_eq_true]
    refine ⟨⟨(by rintro rfl; rw [hf] at h2; cases h2), ?_⟩, fun j hj => ?_⟩
    · cases hv : ancB ops ops.size k i with
      | false => rfl
      | true =>
        have := anc_flag h1 _ k i (fun p hp e he hb => h1 k hf p hp e he hb) hv
        rw [h2] at this; cases this
    · cases hv : ancB ops ops.size k j with
      | false => exact .inr rfl
      | true =>
        have := anc_flag h1 _ k j (fun p hp e he hb => h1 k hf p hp e he hb) hv
        exact .inl (by simp [hj, this])
  · have hc : (ks.filter f).contains k = false := by
      rw [Bool.eq_false_iff]
      simp [hf]
    rw [if_neg (by rw [hc]; decide)]
    cases hv : ancB ops ops.size i k with
    | false => rfl
    | true =>
      have := anc_flag h1 _ i k h3 hv
      rw [this] at hf; exact absurd rfl hf
theorem ins_upd (f : Nat → Bool) (ks : List Nat) (i : Nat) (hi : ks.contains i = true) : ks.filter (upd f i) = ins ks (ks.filter f) i := by
  unfold ins
  apply List.filter_congr
  intro k hk
  unfold upd
  by_cases e : k = i
  · simp [e]
  · have : (k == i) = false := by simpa using e
    rw [if_neg e, this, Bool.or_false]
    cases hf : f k <;> simp [hk, hf]
theorem upd_out (f : Nat → Bool) (ks : List Nat) (i : Nat) (hi : ks.contains i = false) : ks.filter (upd f i) = ks.filter f := by
  apply List.filter_congr
  intro k hk
  unfold upd
  rw [if_neg]
  rintro rfl
  simp [hk] at hi
theorem drawS_of {M : List Nat} {ops : Array Oper} {ks : List Nat} {tbl : List (List Nat × St)} {K : List SV → Prop} : ∀ (n : Nat) (l : List Oper) (env : List SV) (T : List (List (List Nat))), ops.toList.drop n = l → T = ((List.range ops.size).map (alw ops ks)).drop n →
    drawD P M (ops.toList.map (·.dst)) ks tbl n T l env K → drawS P M ops ks (fun f => look tbl (ks.filter f)) n l env K
  | n, [], env, T, hl, hT, h => by
    have h' : K env := by cases T <;> exact h
    exact h'
  | n, o :: r, env, T, hl, hT, h => by
    have hr : ops.toList.drop (n + 1) = r := by rw [← List.drop_drop, hl]; rfl
    have hn : n < ops.size := by
      have := congrArg List.length hl
      simp at this
      omega
    have e1 : ((List.range ops.size).map (alw ops ks)).drop n = alw ops ks n :: ((List.range ops.size).map (alw ops ks)).drop (n + 1) := by
      rw [List.drop_eq_getElem_cons (by simpa using hn)]
      simp
    rw [e1] at hT
    subst hT
    simp only [drawD] at h
    obtain ⟨X, h1, h2⟩ := h
    refine ⟨X, ?_, drawS_of (n + 1) r _ _ hr rfl h2⟩
    by_cases hk : ks.contains n = true
    · rw [if_pos hk] at h1 ⊢
      refine ⟨h1.1, fun f hf => ?_⟩
      have := h1.2 _ (alw_mem hf)
      rwa [← ins_upd f ks n hk] at this
    · rw [if_neg hk] at h1 ⊢
      exact fun f hf => h1 _ (alw_mem hf)
theorem awp_drawD (M : List Nat) (ks : List Nat) (tbl : List (List Nat × St)) (T : List (List (List Nat))) {id : Nat} {ops : Array Oper} {Q : Exit → List SV → St → Prop} {env : List SV} {st s' : St} (hm : P.follows .mixedOrders = true) (hf : flowOk ops = true)
    (hT : (List.range ops.size).map (alw ops ks) = T) (hkn : ks.all (· < ops.size) = true) (h0 : look tbl [] = st) (hN : look tbl ks = s') (h : drawD P M (ops.toList.map (·.dst)) ks tbl 0 T ops.toList env fun e => Q .normal e s') : AWp P (.region id ops true) Q env st := by
  refine awp_drawS M ks (fun f => look tbl (ks.filter f)) hm hf ?_ ?_ ?_
  · have : ks.filter (fun _ => false) = [] := by simp
    rw [← h0]
    simp only [this]
  · intro f i hi
    simp only [upd_out f ks i hi]
  · have e : ks.filter (fun i => decide (i < ops.size)) = ks := by
      apply List.filter_eq_self.2
      intro k hk
      rw [List.all_eq_true] at hkn
      exact hkn k hk
    refine drawS_of 0 _ _ T rfl (by rw [hT]; rfl) ?_
    simp only [e, hN]
    exact h
section
variable {M : List Nat} {ds : List (Option Tmp)} {ks : List Nat} {tbl : List (List Nat × St)} {i : Nat} {Ls : List (List (List Nat))} {o : Oper} {r : List Oper} {env : List SV} {K : List SV → Prop} {c c2 d d2 : List Nat}
theorem dD_p1 (hk : ks.contains i = false) (X : SV) (h1 : d1Spec P M ds o env (look tbl c) (fun x => x = X)) (h2 : drawD P M ds ks tbl (i + 1) Ls r (putE env o.dst X) K) : drawD P M ds ks tbl i ([c] :: Ls) (o :: r) env K := by
  refine ⟨X, ?_, h2⟩
  rw [if_neg (by rw [hk]; decide)]
  intro x hx
  simp only [List.mem_singleton] at hx
  subst hx; exact h1
theorem dD_p2 (hk : ks.contains i = false) (X : SV) (h1 : d1Spec P M ds o env (look tbl c) (fun x => x = X)) (h1' : d1Spec P M ds o env (look tbl c2) (fun x => x = X)) (h2 : drawD P M ds ks tbl (i + 1) Ls r (putE env o.dst X) K) : drawD P M ds ks tbl i ([c, c2] :: Ls) (o :: r) env K := by
  refine ⟨X, ?_, h2⟩
  rw [if_neg (by rw [hk]; decide)]
  intro x hx
  simp only [List.mem_cons, List.not_mem_nil, or_false] at hx
  rcases hx with rfl | rfl
  · exact h1
  · exact h1'
theorem dD_t1 (hk : ks.contains i = true) (hd : ins ks c i = d) (X : SV) (hg : o.guard = none) (h1 : effSpec P M o (onlyAt (opTmps o.op.operands.toList) 0 env) (look tbl c) (fun x s => x = X ∧ s = look tbl d)) (h2 : drawD P M ds ks tbl (i + 1) Ls r (putE env o.dst X) K) : drawD P M ds ks tbl i ([c] :: Ls) (o :: r) env K := by
  refine ⟨X, ?_, h2⟩
  rw [if_pos hk]
  refine ⟨hg, fun x hx => ?_⟩
  simp only [List.mem_singleton] at hx
  subst hx; rw [hd]; exact h1
theorem dD_t2 (hk : ks.contains i = true) (hd : ins ks c i = d) (hd2 : ins ks c2 i = d2) (X : SV) (hg : o.guard = none) (h1 : effSpec P M o (onlyAt (opTmps o.op.operands.toList) 0 env) (look tbl c) (fun x s => x = X ∧ s = look tbl d))
    (h1' : effSpec P M o (onlyAt (opTmps o.op.operands.toList) 0 env) (look tbl c2) (fun x s => x = X ∧ s = look tbl d2)) (h2 : drawD P M ds ks tbl (i + 1) Ls r (putE env o.dst X) K) : drawD P M ds ks tbl i ([c, c2] :: Ls) (o :: r) env K := by
  refine ⟨X, ?_, h2⟩
  rw [if_pos hk]
  refine ⟨hg, fun x hx => ?_⟩
  simp only [List.mem_cons, List.not_mem_nil, or_false] at hx
  rcases hx with rfl | rfl
  · rw [hd]; exact h1
  · rw [hd2]; exact h1'
theorem dD_end (h : K env) : drawD P M ds ks tbl i Ls [] env K := by cases Ls <;> exact h
end
end Go.AL
set_option linter.unusedVariables false
namespace Go.AL
variable {P : Program}
theorem Ids.mono {n m : Nat} {x : SV} (k : Ids n x) (h : n ≤ m) : Ids m x := by
  induction k with
  | any => exact .any
  | sc v => exact .sc v
  | slice md z l hm _ ih => exact .slice md z l (fun id ver e => Nat.lt_of_lt_of_le (hm id ver e) h) ih
  | ref l _ ih => exact .ref l ih
  | ptr id off h1 => exact .ptr id off (Nat.lt_of_lt_of_le h1 h)
  | func fn l k _ _ i1 i2 => exact .func fn l k i1 i2
  | agg l _ ih => exact .agg l ih
  | tuple l _ ih => exact .tuple l ih
  | gd g x _ ih => exact .gd g x ih
  | slc id z off len cap h1 => exact .slc id z off len cap (Nat.lt_of_lt_of_le h1 h)
  | mp id h1 => exact .mp id (Nat.lt_of_lt_of_le h1 h)
  | stamp id j h1 => exact .stamp id j (Nat.lt_of_lt_of_le h1 h)
  | arr id ver m h1 => exact .arr id ver m (Nat.lt_of_lt_of_le h1 h)
  | aptr id ver off h1 => exact .aptr id ver off (Nat.lt_of_lt_of_le h1 h)
theorem ObIds.mono {n m : Nat} (h : n ≤ m) {o : Ob} (k : ObIds n o) : ObIds m o := by
  cases o with
  | cells l => exact fun j hj => (k j hj).mono h
  | map es => exact fun j hj => (k j hj).mono h
  | tok v => trivial
  | glob _ _ => trivial
  | arr v z cs => exact fun j hj => (k j hj).mono h
structure Mod (st s1 : St) : Prop where
  len : st.length ≤ s1.length
  all : ∀ (id : Nat) (o : Ob), s1[id]? = some o → st[id]? = some o ∨ ObIds s1.length o
theorem Mod.refl (st : St) : Mod st st := ⟨Nat.le_refl _, fun _ _ h => .inl h⟩
theorem Mod.set {st s1 : St} (h : Mod st s1) (id : Nat) (X : Ob) (hX : ObIds s1.length X) : Mod st (s1.set id X) := by
  refine ⟨by simpa using h.len, fun j o ho => ?_⟩
  by_cases e : j = id
  · subst e
    have hlt := lt_of_get ho
    rw [List.length_set] at hlt
    rw [set_get hlt] at ho
    cases ho
    exact .inr (by simpa using hX)
  · rw [set_get_ne e] at ho
    rw [List.length_set]
    exact h.all j o ho
theorem Mod.app {st s1 : St} (h : Mod st s1) (l : List Ob) (hl : ∀ o ∈ l, ObIds (s1.length + l.length) o) : Mod st (s1 ++ l) := by
  refine ⟨by have := h.len; simp; omega, fun j o ho => ?_⟩
  rw [List.length_append]
  by_cases e : j < s1.length
  · rw [List.getElem?_append_left e] at ho
    exact (h.all j o ho).imp (fun h => h) fun h => h.mono (by omega)
  · rw [List.getElem?_append_right (by omega)] at ho
    exact .inr (hl o (List.mem_of_getElem? ho))
theorem Mod.trans {a b c : St} (h : Mod a b) (k : Mod b c) : Mod a c :=
  ⟨Nat.le_trans h.len k.len, fun id o ho => (k.all id o ho).elim (fun h1 => (h.all id o h1).imp (fun h => h) fun h2 => h2.mono k.len) .inr⟩
def FinM (st : St) (K : SV → St → Prop) : SV → St → Prop := fun x s => ∃ s1 ex, s = s1 ++ ex ∧ Mod st s1 ∧ Ids s1.length (norm x) ∧ K (norm x) s1
theorem acalls_mod {f : FuncId} {args : List SV} {K : SV → St → Prop} {st : St} (h : ACalls P f args (FinM st K) st) : ACalls P f args K st := by
  intro σ w vs hI hR
  refine acalls_drop (h.mono ?_) σ w vs hI hR
  rintro x s ⟨s1, ex, rfl, hm, hids, hk⟩
  exact ⟨s1, ex, rfl, hm.len, fun id o ho => (hm.all id o ho).elim (fun h1 => (hI.obIds id o h1).mono hm.len) fun h => h, hids, hk⟩
theorem acalls_go_mod (M : List Nat) {f : FuncId} {fn : Func} {c : Code} {rs : Array ResultVar} {n : Nat} {args : List SV} {K : SV → St → Prop} {st : St} (hf : P.funcs[f]? = some fn) (hb : fn.body = some c)
    (hr : fn.results = rs) (hn : fn.ntmps = n) (h : cSpec P M c (RetR P rs.toList (FinM st K)) (args ++ List.replicate (n - args.length) .any) st) :
    ACalls P f args K st := acalls_mod (acalls_go hf hb hr hn h)
theorem objAt_eq {st : St} {id : Nat} {l : List SV} (h : st[id]? = some (.cells l)) : objAt st id = l := by simp [objAt, h]
theorem isObj_eq {st : St} {id : Nat} {l : List SV} (h : st[id]? = some (.cells l)) : isObj st id = True := eq_true (by unfold isObj; rw [h]; trivial)
theorem arrOk_eq {st : St} {id v v' z : Nat} {l : List SV} (h : st[id]? = some (.arr v z l)) : arrOk st id v' = (v = v') := by simp [arrOk, h]
theorem arrZ_eq {st : St} {id v z : Nat} {l : List SV} (h : st[id]? = some (.arr v z l)) : arrZ st id = z := by simp [arrZ, h]
theorem arrC_eq {st : St} {id v z : Nat} {l : List SV} (h : st[id]? = some (.arr v z l)) : arrC st id = l := by simp [arrC, h]
theorem tokAt_eq {st : St} {id v v' : Nat} (h : st[id]? = some (.tok v)) : tokAt st id v' = (v = v') := by simp [tokAt, h]
theorem get_app {st : St} {id : Nat} {o : Ob} (h : st[id]? = some o) (ex : St) : (st ++ ex)[id]? = some o := by rw [List.getElem?_append_left (lt_of_get h)]; exact h
def inS (st : St) (id : Nat) : Prop := id < st.length
theorem inS_of {st : St} {id : Nat} {o : Ob} (h : st[id]? = some o) : inS st id = True := eq_true (lt_of_get h)
section
variable {st s l : St} {id j n k : Nat} {X : Ob} {xs : List SV} {es : List (Value × SV)} {v v' z : Nat}
theorem inS_set : inS (st.set j X) id = inS st id := by simp [inS]
theorem set_appI (h : inS st id) : (st ++ l).set id X = st.set id X ++ l := by rw [List.set_append_left _ _ h]
theorem set_set_same {Y : Ob} : (st.set id X).set id Y = st.set id Y := List.set_set ..
theorem objAt_appI (h : inS st id) : objAt (st ++ l) id = objAt st id := by simp only [objAt]; rw [List.getElem?_append_left h]
theorem isObj_appI (h : inS st id) : isObj (st ++ l) id = isObj st id := by simp only [isObj]; rw [List.getElem?_append_left h]
theorem arrOk_appI (h : inS st id) : arrOk (st ++ l) id v = arrOk st id v := by simp only [arrOk]; rw [List.getElem?_append_left h]
theorem arrZ_appI (h : inS st id) : arrZ (st ++ l) id = arrZ st id := by simp only [arrZ]; rw [List.getElem?_append_left h]
theorem arrC_appI (h : inS st id) : arrC (st ++ l) id = arrC st id := by simp only [arrC]; rw [List.getElem?_append_left h]
theorem mapAt_appI (h : inS st id) : mapAt (st ++ l) id = mapAt st id := by simp only [mapAt]; rw [List.getElem?_append_left h]
theorem tokAt_appI (h : inS st id) : tokAt (st ++ l) id v = tokAt st id v := by simp only [tokAt]; rw [List.getElem?_append_left h]
theorem objAt_setI (h : inS st id) : objAt (st.set id (.cells xs)) id = xs := by simp only [objAt]; rw [set_get h]
theorem isObj_setI (h : inS st id) : isObj (st.set id (.cells xs)) id = True := by simp only [isObj]; rw [set_get h]
theorem arrOk_setI (h : inS st id) : arrOk (st.set id (.arr v z xs)) id v' = (v = v') := by simp only [arrOk]; rw [set_get h]
theorem arrZ_setI (h : inS st id) : arrZ (st.set id (.arr v z xs)) id = z := by simp only [arrZ]; rw [set_get h]
theorem arrC_setI (h : inS st id) : arrC (st.set id (.arr v z xs)) id = xs := by simp only [arrC]; rw [set_get h]
theorem mapAt_setI (h : inS st id) : mapAt (st.set id (.map es)) id = some es := by simp only [mapAt]; rw [set_get h]
theorem tokAt_setI (h : inS st id) : tokAt (st.set id (.tok v)) id v' = (v = v') := by simp only [tokAt]; rw [set_get h]; simp
theorem objAt_setN (h : id ≠ j) : objAt (st.set j X) id = objAt st id := by simp only [objAt, set_get_ne h]
theorem isObj_setN (h : id ≠ j) : isObj (st.set j X) id = isObj st id := by simp only [isObj, set_get_ne h]
theorem arrOk_setN (h : id ≠ j) : arrOk (st.set j X) id v = arrOk st id v := by simp only [arrOk, set_get_ne h]
theorem arrZ_setN (h : id ≠ j) : arrZ (st.set j X) id = arrZ st id := by simp only [arrZ, set_get_ne h]
theorem arrC_setN (h : id ≠ j) : arrC (st.set j X) id = arrC st id := by simp only [arrC, set_get_ne h]
theorem mapAt_setN (h : id ≠ j) : mapAt (st.set j X) id = mapAt st id := by simp only [mapAt, set_get_ne h]
theorem tokAt_setN (h : id ≠ j) : tokAt (st.set j X) id v = tokAt st id v := by simp only [tokAt, set_get_ne h]
theorem objAt_newC (h : st.length = n) : objAt (st ++ l) (n + k) = objAt l k := by subst h; exact obj_app' _ _ _
theorem isObj_newC (h : st.length = n) : isObj (st ++ l) (n + k) = isObj l k := by subst h; exact isObj_app' _ _ _
theorem set_newC (h : st.length = n) : (st ++ l).set (n + k) X = st ++ l.set k X := by subst h; exact set_app' _ _ _ _
theorem objAt_newC0 (h : st.length = n) : objAt (st ++ l) n = objAt l 0 := objAt_newC (k := 0) h
theorem isObj_newC0 (h : st.length = n) : isObj (st ++ l) n = isObj l 0 := isObj_newC (k := 0) h
theorem set_newC0 (h : st.length = n) : (st ++ l).set n X = st ++ l.set 0 X := set_newC (k := 0) h
theorem arrOk_zero {xs : List SV} : arrOk (.arr v z xs :: l) 0 v' = (v = v') := by simp [arrOk]
theorem arrZ_zero {xs : List SV} : arrZ (.arr v z xs :: l) 0 = z := rfl
theorem arrC_zero {xs : List SV} : arrC (.arr v z xs :: l) 0 = xs := rfl
theorem mapAt_zero : mapAt (.map es :: l) 0 = some es := rfl
theorem arrOk_succ {o : Ob} : arrOk (o :: l) (k + 1) v = arrOk l k v := rfl
theorem arrZ_succ {o : Ob} : arrZ (o :: l) (k + 1) = arrZ l k := rfl
theorem arrC_succ {o : Ob} : arrC (o :: l) (k + 1) = arrC l k := rfl
theorem mapAt_succ {o : Ob} : mapAt (o :: l) (k + 1) = mapAt l k := rfl
end
attribute [go_sem] inS_set set_appI set_set_same objAt_appI isObj_appI arrOk_appI arrZ_appI arrC_appI mapAt_appI tokAt_appI objAt_setI isObj_setI arrOk_setI arrZ_setI arrC_setI mapAt_setI tokAt_setI objAt_setN isObj_setN arrOk_setN arrZ_setN arrC_setN mapAt_setN tokAt_setN objAt_newC isObj_newC set_newC objAt_newC0 isObj_newC0 set_newC0 arrOk_zero arrZ_zero arrC_zero mapAt_zero arrOk_succ arrZ_succ arrC_succ mapAt_succ
theorem cells_facts {st : St} {id : Nat} {l : List SV} (h : st[id]? = some (.cells l)) : inS st id = True ∧ isObj st id = True ∧ objAt st id = l := ⟨inS_of h, isObj_eq h, objAt_eq h⟩
theorem arr_facts {st : St} {id v z : Nat} {l : List SV} (h : st[id]? = some (.arr v z l)) : inS st id = True ∧ arrOk st id v = True ∧ arrZ st id = z ∧ arrC st id = l := ⟨inS_of h, by rw [arrOk_eq h]; simp, arrZ_eq h, arrC_eq h⟩
section
variable {M : List Nat} {t : TypeId} {x k m v s : Operand} {ρ : Operand → SV} {st : St} {env : List SV} {K : SV → St → Prop} {d : Option Tmp} {ty : TypeId} {pos : String} {aft : Array Edge} {gu : Option (Nat × Bool)} {id : Nat} {p : Prop} {ok : Bool}
@[go_sem] theorem kind_makeMap {r : Option Operand} : kindOf (.makeMap t r) = .eff := rfl
@[go_sem] theorem eff_makeMap : effSpec P M ⟨d, .makeMap t none, ty, pos, aft, gu⟩ env st K = K (.mp st.length) (st ++ [.map []]) := rfl
@[go_sem] theorem kind_lookup : kindOf (.lookup t x k ok) = .pure := rfl
@[go_sem] theorem ok_lookup : okCore P st ρ (.lookup t x k ok) = ((mapGet P t st (ρ x) (ρ k)).isSome = true) := rfl
@[go_sem] theorem val_lookup1 : valCore P st ρ (.lookup t x k true) = match mapGet P t st (ρ x) (ρ k) with | some (y, b) => .tuple [y, .sc (.bool b)] | none => .any := rfl
@[go_sem] theorem val_lookup0 : valCore P st ρ (.lookup t x k false) = match mapGet P t st (ρ x) (ρ k) with | some (y, b) => y | none => .any := rfl
@[go_sem] theorem kind_mapUpdate : kindOf (.mapUpdate t m k v) = .eff := rfl
@[go_sem] theorem eff_mapUpdate : effSpec P M ⟨d, .mapUpdate t m k v, ty, pos, aft, gu⟩ env st K = (d = none ∧ putSpec P t st (ev env m) (ev env k) (ev env v) (K .any ·)) := rfl
@[go_sem] theorem kind_insert : kindOf (.insert t m k v) = .eff := rfl
@[go_sem] theorem eff_insert : effSpec P M ⟨d, .insert t m k v, ty, pos, aft, gu⟩ env st K = (d = none ∧ putSpec P t st (ev env m) (ev env k) (ev env v) (K .any ·)) := rfl
@[go_sem] theorem kind_mapEntry : kindOf (.mapEntry t m k) = .eff := rfl
@[go_sem] theorem eff_mapEntry : effSpec P M ⟨d, .mapEntry t m k, ty, pos, aft, gu⟩ env st K = entrySpec P t st (ev env m) (ev env k) K := rfl
@[go_sem] theorem kind_entryStore : kindOf (.entryStore t m s v) = .eff := rfl
@[go_sem] theorem eff_entryStore : effSpec P M ⟨d, .entryStore t m s v, ty, pos, aft, gu⟩ env st K = (d = none ∧ stampSpec st (ev env v) (ev env m) (ev env s) (K .any ·)) := rfl
@[go_sem] theorem lenOk_mp : lenOk P t st (.mp id) = ((aMap P t).isSome = true ∧ (mapAt st id).isSome = true) := rfl
@[go_sem] theorem lenV_mp : lenV st (.mp id) = .sc (.int .i64 ((mapAt st id).getD []).length) := rfl
@[go_sem] theorem gIf_mp : gIf p (.mp id) = True := rfl
@[go_sem] theorem strip_mp : strip (.mp id) = .mp id := rfl
@[go_sem] theorem cells_mp : (SV.mp id).cells = [.mp id] := rfl
@[go_sem] theorem shape_mp : shapeOk (.mp id) = true := rfl
@[go_sem] theorem norm_mp : norm (.mp id) = .mp id := rfl
@[go_sem] theorem norm1_mp : norm1 (.mp id) = .mp id := rfl
@[go_sem] theorem cellOk_mp : cellOk (.mp id) = true := rfl
@[go_sem] theorem gIf_stamp {j : Nat} : gIf p (.stamp id j) = True := rfl
@[go_sem] theorem strip_stamp {j : Nat} : strip (.stamp id j) = .stamp id j := rfl
def IntKeys (es : List (Value × SV)) : Prop := ∀ q ∈ es, ∃ n, q.1 = .int .i64 n
theorem keyGood_int {kt : TypeId} (n : Int) : keyGood P kt (.int .i64) (.int .i64 n) = true := by simp [keyGood, keyFits]
theorem intKeys_all {kt : TypeId} {es : List (Value × SV)} (h : IntKeys es) : es.all (fun q => keyGood P kt (.int .i64) q.1) = true := by
  rw [List.all_eq_true]
  intro q hq
  obtain ⟨n, hn⟩ := h q hq
  rw [hn]; exact keyGood_int n
def getOr (es : List (Value × SV)) (z : SV) (n : Int) : SV × Bool := match keyIdx es (.int .i64 n) with | some j => ((es.getD j (default, .any)).2, true) | none => (z, false)
theorem mapGet_int {kt e : TypeId} {z : SV} {n : Int} {es : List (Value × SV)} (hm : aMap P t = some (kt, .int .i64, e)) (hz : zeroSV P e = some z) (hes : mapAt st id = some es) (hk : IntKeys es) :
    mapGet P t st (.mp id) (.sc (.int .i64 n)) = some (getOr es z n) := by
  simp only [mapGet, keyOf, hm, hes, hz, keyGood_int, intKeys_all hk, Bool.and_self, if_true, getOr]
  cases keyIdx es (.int .i64 n) <;> rfl
theorem mapOk_int {kt e : TypeId} {n : Int} {es : List (Value × SV)} (hm : aMap P t = some (kt, .int .i64, e)) (hes : mapAt st id = some es) (hk : IntKeys es) :
    mapOk P t st (.mp id) (.sc (.int .i64 n)) = some (id, es, .int .i64 n, e) := by
  simp only [mapOk, keyOf, hm, hes, keyGood_int, intKeys_all hk, Bool.and_self, if_true]
theorem put_int {kt e : TypeId} {n : Int} {v : SV} {N : St → Prop} {es : List (Value × SV)} (hm : aMap P t = some (kt, .int .i64, e)) (hes : mapAt st id = some es) (hk : IntKeys es) :
    putSpec P t st (.mp id) (.sc (.int .i64 n)) v N = N (st.set id (.map (mapPut es (.int .i64 n) v))) := by
  simp only [putSpec, mapOk_int hm hes hk]
theorem intKeys_nil : IntKeys [] := fun q h => by cases h
theorem intKeys_put {es : List (Value × SV)} (h : IntKeys es) (n : Int) (v : SV) : IntKeys (mapPut es (.int .i64 n) v) := by
  unfold mapPut
  split
  · rename_i j hj
    intro q hq
    obtain ⟨i, hi⟩ := List.getElem?_of_mem hq
    by_cases e : j = i
    · subst e
      have hlt := lt_of_get hi
      rw [List.length_set] at hlt
      rw [List.getElem?_set_self hlt] at hi
      cases hi
      have : es.getD j (default, .any) ∈ es := by simp [List.getD_eq_getElem?_getD, hlt]
      obtain ⟨m, hm⟩ := h _ this
      exact ⟨m, hm⟩
    · rw [List.getElem?_set_ne e] at hi
      exact h q (List.mem_of_getElem? hi)
  · intro q hq
    rcases List.mem_append.1 hq with h1 | h1
    · exact h q h1
    · simp at h1; subst h1; exact ⟨n, rfl⟩
end
theorem forall_getD {α : Type} {l : List α} {d : α} {p : α → Prop} : (∀ j, j < l.length → p (l.getD j d)) ↔ ∀ x ∈ l, p x := by
  constructor
  · intro h x hx
    obtain ⟨i, hi⟩ := List.getElem?_of_mem hx
    have := h i (lt_of_get hi)
    rwa [List.getD_eq_getElem?_getD, hi] at this
  · intro h j hj
    rw [List.getD_eq_getElem?_getD, List.getElem?_eq_getElem hj]
    exact h _ (List.getElem_mem hj)
theorem obIds_cells {n : Nat} {l : List SV} : ObIds n (.cells l) = ∀ x ∈ l, Ids n x := propext forall_getD
theorem obIds_arr {n v z : Nat} {l : List SV} : ObIds n (.arr v z l) = ∀ x ∈ l, Ids n x := propext forall_getD
end Go.AL
set_option linter.unusedVariables false
namespace Go.AL
open Go Go.RowKit
theorem kept_below {w w' : World} (h : Below w.heap.size w w') (may : MemPlace → Prop) : w.keptBut w' may := by
  refine ⟨h.os, h.output, fun i hi => ?_⟩
  rw [h.block i hi]
  split
  · rename_i e1 e2
    rw [e1] at e2; cases e2
    exact ⟨rfl, rfl, rfl, fun _ _ => rfl⟩
  · rename_i e1 e2
    rw [e1] at e2; cases e2
    exact .inr ⟨rfl, rfl⟩
  · rfl
theorem post_below {H : Type} {enc : TypeId × Value → H} {P : Program} {f : Func} {s : ChangeSpec} {apart fresh handsOn again : Bool} {W W' : World} {args : Array Value} {v : Value} {ds gs : List (DataW H)} {before pa pv : List MemPlace}
    (hW : DataW.Whole enc P f.params.toList s.vars apart W args.toList ds gs before)
    (hres : ∀ (b : Nat) (sp : Nat → Bool) (hd : Bool), DataW.TrodAll enc P W' b sp hd f.resultTypes.toList (v.resultList f.resultTypes.size) (s.fn H (ds ++ gs)).results [])
    (hargs : ∀ sp : Nat → Bool, (∀ p ∈ before, sp p.block = true) → DataW.TrodAll enc P W' 0 sp true f.params.toList args.toList (s.fn H (ds ++ gs)).args pa)
    (hvars : ∀ sp : Nat → Bool, (∀ p ∈ before, sp p.block = true) → DataW.TrodVars enc P W' sp s.vars (s.fn H (ds ++ gs)).vars pv)
    (hps : before = pa ++ pv) (hb : Below W.heap.size W W')
    (hok : ∀ (j : Nat) (t : TypeId) (r : Value), f.resultTypes[j]? = some t → (v.resultList f.resultTypes.size)[j]? = some r → Value.okWide P W' .any 0 t r) :
    s.post enc P f apart fresh handsOn again W args v W' := by
  have hold : ∀ p ∈ before, (fun b => decide (b < W.heap.size)) p.block = true := fun p hp => by simpa using hW.lt p hp
  refine ⟨ds, gs, before, [], pa, pv, hW, hres _ _ _, hargs _ hold, hvars _ hold, World.keptBut_mono (fun p hp => ⟨hp, ?_⟩) (kept_below hb (· ∈ before)), fun _ => ?_⟩
  · rw [hps, List.mem_append] at hp
    exact Or.inr hp
  · have hlt := hW.lt
    obtain ⟨_, _, _, _, _, hz, hn⟩ := hW
    refine ⟨hok, _, _, ([] ++ pa) ++ pv, ⟨[] ++ pa, pv, Go.ChangeShapes.trodAll_append (hargs _ (fun _ _ => rfl)) (hres _ _ _), hvars _ (fun _ _ => rfl), rfl, ?_, ?_⟩, ?_⟩
    · intro b off hp
      have hp' : MemPlace.cell b off ∈ before := by rw [hps]; simpa using hp
      have h1 := hz b off hp'
      have h2 := hlt _ hp'
      unfold World.frozen? at h1 ⊢
      simp only at h1 h2 ⊢
      rw [hb.block b h2]
      exact h1
    · intro ha
      have := hn ha
      rw [hps] at this
      simpa using this
    · intro p hp _
      rw [hps]
      simpa using hp
theorem i64_wf {n : Int} (h : (Lit.int .i64 n).wf = true) : -9223372036854775808 ≤ n ∧ n ≤ 9223372036854775807 := by
  have h' : (decide ((-9223372036854775808 : Int) ≤ n) && decide (n ≤ 9223372036854775807)) = true := h
  simpa using h'
end Go.AL
