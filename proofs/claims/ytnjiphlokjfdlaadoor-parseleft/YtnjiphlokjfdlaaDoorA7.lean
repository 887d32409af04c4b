/- The abstract layer, part 25: regions that draw, where turners may change places: what the objects are is told by what is done. -/
import Derived.Test.YtnjiphlokjfdlaaDoorA6
import Derived.WalkKit
import Derived.ProofKit
import Derived.OpenShut
import Derived.Below
import Derived.Laws.IdiomRangeMap
set_option linter.unusedVariables false
namespace Go.AL
variable {P : Program}
def upd (f : Nat → Bool) (i : Nat) : Nat → Bool := fun k => if k = i then true else f k
def Listed (ops : Array Oper) (f : Nat → Bool) (i : Nat) : Prop :=
  (∀ k, f k = true → ∀ p, ops[k]? = some p → ∀ e, e ∈ p.after.toList → Region.binds .any e = true → f e.on = true) ∧ f i = false ∧ (∀ p, ops[i]? = some p → ∀ e, e ∈ p.after.toList → Region.binds .any e = true → f e.on = true)
def drawS (P : Program) (M : List Nat) (ops : Array Oper) (ks : List Nat) (S : (Nat → Bool) → St) : Nat → List Oper → List SV → (List SV → Prop) → Prop
  | _, [], env, K => K env
  | i, o :: r, env, K => ∃ X, (if ks.contains i then o.guard = none ∧ ∀ f, Listed ops f i → effSpec P M o (onlyAt (opTmps o.op.operands.toList) 0 env) (S f) (fun x s => x = X ∧ s = S (upd f i))
      else ∀ f, Listed ops f i → d1Spec P M (ops.toList.map (·.dst)) o env (S f) (fun x => x = X)) ∧ drawS P M ops ks S (i + 1) r (putE env o.dst X) K
theorem chainS {M : List Nat} {ops : Array Oper} {ks : List Nat} {S : (Nat → Bool) → St} {K : List SV → Prop} : ∀ (n : Nat) (l : List Oper) (env : List SV), ops.toList.drop n = l →
    drawS P M ops ks S n l env K →
    ∃ (F : Nat → List SV) (X : Nat → SV), F n = env ∧
      (∀ i o, n ≤ i → ops[i]? = some o → F (i + 1) = putE (F i) o.dst (X i) ∧
        (if ks.contains i then ∀ f, Listed ops f i → EffFact P ops (S f) (S (upd f i)) o (F i) (X i) else ∀ f, Listed ops f i → OpFact P ops (S f) o (F i) (X i))) ∧
      K (F (n + l.length))
  | n, [], env, hl, h => by
    refine ⟨fun _ => env, fun _ => .any, rfl, fun i o hi ho => ?_, h⟩
    have h1 := lt_of_some ho
    have h2 := congrArg List.length hl
    simp at h2
    omega
  | n, o :: r, env, hl, h => by
    have ho : ops[n]? = some o := by
      have : (ops.toList.drop n)[0]? = some o := by rw [hl]; rfl
      rw [List.getElem?_drop, Nat.add_zero, Array.getElem?_toList] at this
      exact this
    have hr : ops.toList.drop (n + 1) = r := by rw [← List.drop_drop, hl]; rfl
    simp only [drawS] at h
    obtain ⟨X0, h1, h2⟩ := h
    obtain ⟨F, X, f1, f4, f5⟩ := chainS (n + 1) r _ hr h2
    refine ⟨fun i => if i = n then env else F i, fun i => if i = n then X0 else X i, by simp, fun i p hi hp => ?_, ?_⟩
    · by_cases e : i = n
      · subst e
        rw [ho] at hp; cases hp
        simp only [if_true, show ¬ i + 1 = i by omega, if_false]
        refine ⟨f1, ?_⟩
        by_cases hk : ks.contains i = true
        · rw [if_pos hk] at h1 ⊢
          intro f hf σ w a env' hI hR hs hlen
          refine ⟨h1.1, fun _ _ _ => False, fun _ _ _ h => h, ?_⟩
          refine upon_mono ?_ (fun _ _ _ h => h) (aop_eff (h1.2 f hf) σ w a hI (rep_only hR hs hlen))
          rintro a' w' ⟨v, x, s1, σ', rfl, ⟨rfl, rfl⟩, hI', hr', hX⟩
          exact ⟨v, σ', rfl, hI', hX, hr'⟩
        · rw [if_neg hk] at h1 ⊢
          intro f hf
          obtain ⟨X1, g1, rfl⟩ := fact_of (h1 f hf)
          exact g1
      · simp only [if_neg e, show ¬ i + 1 = n by omega, if_false]
        exact f4 i p (by omega) hp
    · simp only [List.length_cons]
      rw [if_neg (by omega), show n + (r.length + 1) = n + 1 + r.length by omega]
      exact f5
theorem awp_drawS (M : List Nat) (ks : List Nat) (S : (Nat → Bool) → St) {id : Nat} {ops : Array Oper} {Q : Exit → List SV → St → Prop} {env : List SV} {st : St} (hm : P.follows .mixedOrders = true) (hf : flowOk ops = true)
    (hS0 : S (fun _ => false) = st) (hSk : ∀ f i, ks.contains i = false → S (upd f i) = S f) (h : drawS P M ops ks S 0 ops.toList env fun e => Q .normal e (S fun i => decide (i < ops.size))) : AWp P (.region id ops true) Q env st := by
  intro σ w a hI hR D hd
  obtain ⟨F, X, f1, f2', f3⟩ := chainS 0 ops.toList env rfl h
  simp only [Nat.zero_add, Array.length_toList] at f3
  have f2 : ∀ i o, 0 ≤ i → ops[i]? = some o → True ∧ F (i + 1) = putE (F i) o.dst (X i) := fun i o hi ho => ⟨trivial, (f2' i o hi ho).1⟩
  have hflow : ∀ i j p q, ops[i]? = some p → ops[j]? = some q → i ≠ j → ∀ t, q.dst = some t → (t ∈ looks ops p → if j < i then dirEdge p j = true else dirEdge q i = true) ∧ p.dst ≠ some t := by
    intro i j p q hp hq hne t ht
    have h1 := lt_of_some hp
    have h2 := lt_of_some hq
    unfold flowOk at hf
    rw [List.all_eq_true] at hf
    have h3 := hf i (by simpa using h1)
    simp only [Bool.and_eq_true, List.all_eq_true] at h3
    have h4 := h3.1 j (by simpa using h2)
    unfold flowAt at h4
    rw [hp, hq] at h4
    simp only [ht, Bool.or_eq_true, beq_iff_eq, Bool.and_eq_true, Bool.not_eq_true', bne_iff_ne, ne_eq] at h4
    rcases h4 with h4 | ⟨h4, h5⟩
    · exact absurd h4 hne
    · refine ⟨fun hlk => ?_, h5⟩
      rcases h4 with h4 | h4
      · simp [hlk] at h4
      · split <;> rename_i hji <;> simpa [hji] using h4
  have hback : ∀ i p, ops[i]? = some p → ∀ e, e ∈ p.after.toList → Region.binds .any e = true → e.on < i := by
    intro i p hp e he hb
    have h1 := lt_of_some hp
    unfold flowOk at hf
    rw [List.all_eq_true] at hf
    have h3 := hf i (by simpa using h1)
    simp only [Bool.and_eq_true, hp, Option.map_some, Option.getD_some, List.all_eq_true] at h3
    have h4 := h3.2 e he
    simpa [hb] using h4
  have flen : ∀ i, i ≤ ops.size → (F i).length = env.length := by
    intro i
    induction i with
    | zero => intro _; rw [f1]
    | succ i ih =>
      intro hi
      have hp : ops[i]? = some ops[i] := by simp [show i < ops.size by omega]
      rw [(f2 i _ (Nat.zero_le _) hp).2, length_putE, ih (by omega)]
  have fget : ∀ i, i ≤ ops.size → ∀ t, t < env.length → (∀ j, j < i → writes ops j t = true → (F i).getD t .any = X j) ∧ ((∀ j, j < i → writes ops j t = false) → (F i).getD t .any = env.getD t .any) := by
    intro i
    induction i with
    | zero => intro _ t ht; exact ⟨fun j hj => absurd hj (Nat.not_lt_zero _), fun _ => by rw [f1]⟩
    | succ i ih =>
      intro hi t ht
      obtain ⟨ih1, ih2⟩ := ih (by omega) t ht
      have hp : ops[i]? = some ops[i] := by simp [show i < ops.size by omega]
      have he := (f2 i _ (Nat.zero_le _) hp).2
      have hg : (F (i + 1)).getD t .any = if ops[i].dst = some t then X i else (F i).getD t .any := by rw [he]; exact putE_get (by rw [flen i (by omega)]; exact ht)
      have hwi : writes ops i t = true ↔ ops[i].dst = some t := by simp [writes, hp]
      refine ⟨fun j hj hw => ?_, fun hno => ?_⟩
      · rw [hg]
        by_cases c : ops[i].dst = some t
        · rw [if_pos c]
          by_cases e : j = i
          · rw [e]
          · have hjl : j < ops.size := by omega
            have hq : ops[j]? = some ops[j] := by simp [hjl]
            have hjd : ops[j].dst = some t := by simpa [writes, hq] using hw
            exact absurd c (hflow i j _ _ hp hq (by omega) t hjd).2
        · rw [if_neg c]
          have e : j ≠ i := by rintro rfl; exact c (hwi.1 hw)
          exact ih1 j (by omega) hw
      · rw [hg, if_neg (fun c => by have := hno i (by omega); rw [hwi.2 c] at this; cases this)]
        exact ih2 fun j hj => hno j (by omega)
  let fl : Array Bool → Nat → Bool := fun listed k => listed.getD k false
  let Inv' : Array Bool → Act → World → Prop := fun listed a' w' => ∃ σ', Inv (S (fl listed)) σ' w' ∧ Ext st σ w (S (fl listed)) σ' w' ∧ a'.defers = D ∧ listed.size = ops.size ∧
    RepEnv (S (fl listed)) σ' w' (mixE ops listed env (F ops.size)) a'.tmps ∧ ∀ i, listed.getD i false = true → ∀ p, ops[i]? = some p → ∀ e, e ∈ p.after.toList → Region.binds .any e = true → listed.getD e.on false = true
  have key : ∀ (fuel : Nat) (listed : Array Bool) (a' : Act) (w' : World), ((List.range ops.size).filter fun j => !listed.getD j false).length = fuel → Inv' listed a' w' →
      wpAny P .any ops (fun e a' w' => Post D (Q e) st σ w a' w') fuel listed a' w' := by
    intro fuel
    induction fuel with
    | zero =>
      intro listed a' w' hc hI'
      obtain ⟨σ', i1, i2, i3, i4, i5, i6⟩ := hI'
      have hall : ∀ j, j < ops.size → listed.getD j false = true := by
        intro j hj
        have h0 : (List.range ops.size).filter (fun j => !listed.getD j false) = [] := List.eq_nil_of_length_eq_zero hc
        rw [List.filter_eq_nil_iff] at h0
        simpa using h0 j (by simpa using hj)
      have hnx : fl listed = fun i => decide (i < ops.size) := by
        funext k
        by_cases hk : k < ops.size
        · simp only [fl, hall k hk, hk, decide_true]
        · simp only [fl, hk, decide_false]
          rw [Array.getD_eq_getD_getElem?, Array.getElem?_eq_none (by omega)]; rfl
      rw [hnx] at i1 i2 i5
      refine ⟨?_, i3, mixE ops listed env (F ops.size), S _, σ', ?_, i1, i5, i2⟩
      · unfold Region.ready
        rw [List.filter_eq_nil_iff]
        intro j hj
        have hj' : j < ops.size := by simpa using hj
        have h1 := hall j hj'
        have : listed.getD j true = true := by
          rw [Array.getD_eq_getD_getElem?] at h1 ⊢
          rw [Array.getElem?_eq_getElem (by omega)] at h1 ⊢
          exact h1
        simp [this]
      · have e : mixE ops listed env (F ops.size) = F ops.size := by
          apply List.ext_getElem?
          intro t
          by_cases ht : t < env.length
          · have h1 := getD_mixE (ops := ops) (listed := listed) (eN := F ops.size) ht
            have hl1 : t < (mixE ops listed env (F ops.size)).length := by rw [length_mixE]; exact ht
            have hl2 : t < (F ops.size).length := by rw [flen _ (Nat.le_refl _)]; exact ht
            rw [List.getElem?_eq_getElem hl1, List.getElem?_eq_getElem hl2]
            simp only [List.getD_eq_getElem?_getD, List.getElem?_eq_getElem hl1, List.getElem?_eq_getElem hl2, Option.getD_some] at h1
            rw [h1]
            split
            · rfl
            · rename_i hno
              have h2 := (fget ops.size (Nat.le_refl _) t ht).2 (fun j hj => by
                cases hw : writes ops j t with
                | false => rfl
                | true =>
                  exfalso
                  apply hno
                  unfold wr
                  rw [List.any_eq_true]
                  exact ⟨j, by simpa using hj, by rw [hall j hj, hw]; rfl⟩)
              simp only [List.getD_eq_getElem?_getD, List.getElem?_eq_getElem hl2, Option.getD_some] at h2
              rw [h2]
          · rw [List.getElem?_eq_none (by rw [length_mixE]; omega), List.getElem?_eq_none (by rw [flen _ (Nat.le_refl _)]; omega)]
        rw [e]
        exact f3
    | succ fuel ih =>
      intro listed a' w' hc hI'
      obtain ⟨σ', i1, i2, i3, i4, i5, i6⟩ := hI'
      have hready : ∀ i, i ∈ Region.ready .any ops listed ↔ i < ops.size ∧ listed.getD i true = false ∧ ∀ p, ops[i]? = some p → ∀ e, e ∈ p.after.toList → Region.binds .any e = true → listed.getD e.on false = true := by
        intro i
        unfold Region.ready
        rw [List.mem_filter]
        constructor
        · rintro ⟨h1, h2⟩
          have h1' : i < ops.size := by simpa using h1
          simp only [Bool.and_eq_true, Bool.not_eq_true'] at h2
          refine ⟨h1', h2.1, fun p hp e he hb => ?_⟩
          have h3 := h2.2
          rw [hp] at h3
          simp only [Option.map_some, Option.getD_some, Array.all_eq_true'] at h3
          have := h3 e (by simpa using he)
          simpa [hb] using this
        · rintro ⟨h1, h2, h3⟩
          refine ⟨by simpa using h1, ?_⟩
          have hp : ops[i]? = some ops[i] := by simp [h1]
          simp only [h2, hp, Option.map_some, Option.getD_some, Bool.not_false, Bool.true_and, Array.all_eq_true']
          intro e he
          cases hb : Region.binds .any e with
          | false => rfl
          | true => simpa using h3 _ hp e (by simpa using he) hb
      refine ⟨fun hnil => ?_, fun i hi => ?_⟩
      · -- the least one that is not listed is ready
        exfalso
        have hex : ∃ j, j < ops.size ∧ listed.getD j false = false := by
          have hne : (List.range ops.size).filter (fun j => !listed.getD j false) ≠ [] := by intro h0; rw [h0] at hc; cases hc
          obtain ⟨j, hj⟩ := List.exists_mem_of_ne_nil _ hne
          rw [List.mem_filter] at hj
          exact ⟨j, by simpa using hj.1, by simpa using hj.2⟩
        obtain ⟨j, hj1, hj2⟩ := hex
        have least : ∀ n, ∀ j, j ≤ n → j < ops.size → listed.getD j false = false → ∃ i, i < ops.size ∧ listed.getD i false = false ∧ ∀ k, k < i → listed.getD k false = true := by
          intro n
          induction n with
          | zero =>
            intro j hj h1 h2
            exact ⟨j, h1, h2, fun k hk => by omega⟩
          | succ n ihn =>
            intro j hj h1 h2
            by_cases c : ∃ k, k < j ∧ listed.getD k false = false
            · obtain ⟨k, hk1, hk2⟩ := c
              exact ihn k (by omega) (by omega) hk2
            · refine ⟨j, h1, h2, fun k hk => ?_⟩
              cases hv : listed.getD k false with
              | true => rfl
              | false => exact absurd ⟨k, hk, hv⟩ c
        obtain ⟨i, hi1, hi2, hi3⟩ := least j j (Nat.le_refl _) hj1 hj2
        have : i ∈ Region.ready .any ops listed := (hready i).2 ⟨hi1, by
          rw [Array.getD_eq_getD_getElem?] at hi2 ⊢
          rw [Array.getElem?_eq_getElem (by omega)] at hi2 ⊢
          exact hi2, fun p hp e he hb => hi3 _ (hback i p hp e he hb)⟩
        rw [hnil] at this
        cases this
      · obtain ⟨hi1, hi2, hi3⟩ := (hready i).1 hi
        have hp : ops[i]? = some ops[i] := by simp [hi1]
        have hnl : listed.getD i false = false := by
          rw [Array.getD_eq_getD_getElem?] at hi2 ⊢
          rw [Array.getElem?_eq_getElem (by omega)] at hi2 ⊢
          exact hi2
        obtain ⟨hnext, hfact⟩ := f2' i _ (Nat.zero_le _) hp
        have hagree : ∀ t ∈ looks ops ops[i], (mixE ops listed env (F ops.size)).getD t .any = (F i).getD t .any := by
          intro t ht
          by_cases hlt : t < env.length
          · rw [getD_mixE hlt]
            obtain ⟨g1, g2⟩ := fget i (by omega) t hlt
            obtain ⟨gN1, gN2⟩ := fget ops.size (Nat.le_refl _) t hlt
            by_cases c : ∃ j, j < i ∧ writes ops j t = true
            · obtain ⟨j, hj, hw⟩ := c
              have hjl : j < ops.size := by omega
              have hq : ops[j]? = some ops[j] := by simp [hjl]
              have hjd : ops[j].dst = some t := by simpa [writes, hq] using hw
              have hedge := (hflow i j _ _ hp hq (by omega) t hjd).1 ht
              rw [if_pos hj] at hedge
              have hlj : listed.getD j false = true := by
                unfold dirEdge at hedge
                rw [List.any_eq_true] at hedge
                obtain ⟨e, he1, he2⟩ := hedge
                simp only [Bool.and_eq_true, beq_iff_eq] at he2
                have := hi3 _ hp e he1 he2.1
                rwa [he2.2] at this
              rw [if_pos (by unfold wr; rw [List.any_eq_true]; exact ⟨j, by simpa using hjl, by rw [hlj, hw]; rfl⟩), g1 j hj hw, gN1 j hjl hw]
            · rw [g2 fun j hj => by
                cases hw : writes ops j t with
                | false => rfl
                | true => exact absurd ⟨j, hj, hw⟩ c]
              rw [if_neg]
              intro hwr
              unfold wr at hwr
              rw [List.any_eq_true] at hwr
              obtain ⟨j, hj1, hj2⟩ := hwr
              simp only [Bool.and_eq_true] at hj2
              have hjl : j < ops.size := by simpa using hj1
              have hq : ops[j]? = some ops[j] := by simp [hjl]
              have hjd : ops[j].dst = some t := by simpa [writes, hq] using hj2.2
              have hne : i ≠ j := by rintro rfl; rw [hj2.1] at hnl; cases hnl
              have hnji : ¬ j < i := fun hji => c ⟨j, hji, hj2.2⟩
              have hedge := (hflow i j _ _ hp hq hne t hjd).1 ht
              rw [if_neg hnji] at hedge
              unfold dirEdge at hedge
              rw [List.any_eq_true] at hedge
              obtain ⟨e, he1, he2⟩ := hedge
              simp only [Bool.and_eq_true, beq_iff_eq] at he2
              have := i6 j hj2.1 _ hq e he1 he2.1
              rw [he2.2, hnl] at this
              cases this
          · rw [List.getD_eq_getElem?_getD, List.getD_eq_getElem?_getD, List.getElem?_eq_none (by rw [length_mixE]; omega), List.getElem?_eq_none (by rw [flen i (by omega)]; omega)]
        have glF : fl (listed.setIfInBounds i true) = upd (fl listed) i := by
          funext k
          simp only [fl, upd]
          rw [Array.getD_eq_getD_getElem?, Array.getD_eq_getD_getElem?]
          by_cases e : i = k
          · subst e; simp [show i < listed.size by omega]
          · rw [Array.getElem?_setIfInBounds_ne e, if_neg (fun h => e h.symm)]
        have hLi : Listed ops (fl listed) i := ⟨fun k hk p hp' e he hb => i6 k hk p hp' e he hb, hnl, fun p hp' e he hb => hi3 p hp' e he hb⟩
        have hdone : ∀ (v : Value) (σ2 : Sig) (w2 : World) (s2 : St), s2 = S (fl (listed.setIfInBounds i true)) → Inv s2 σ2 w2 → Ext (S (fl listed)) σ' w' s2 σ2 w2 → Rep s2 σ2 w2 (X i) v →
            Inv' (listed.setIfInBounds i true) (a'.put ops[i].dst v) w2 := by
          intro v σ2 w2 s2 es2 hI2 hX2 hr2
          subst es2
          have gl : ∀ k, (listed.setIfInBounds i true).getD k false = if k = i then true else listed.getD k false := by
            intro k
            rw [Array.getD_eq_getD_getElem?, Array.getD_eq_getD_getElem?]
            by_cases e : i = k
            · subst e; simp [show i < listed.size by omega]
            · rw [Array.getElem?_setIfInBounds_ne e, if_neg (fun h => e h.symm)]
          have hRE := i5.ext hX2
          refine ⟨σ2, hI2, i2.trans hX2, by rw [put_defers]; exact i3, by simpa using i4, ⟨?_, fun t ht => ?_⟩, fun k hk p hp' e he hb => ?_⟩
          · rw [length_mixE]
            have := hRE.1
            rw [length_mixE] at this
            cases ops[i].dst with
            | none => exact this
            | some d => simpa [Act.put] using this
          · rw [length_mixE] at ht
            have hput := rep_put hRE ops[i].dst hr2
            have h1 := hput.2 t (by rw [length_putE, length_mixE]; exact ht)
            rw [putE_get (by rw [length_mixE]; exact ht)] at h1
            have e : (mixE ops (listed.setIfInBounds i true) env (F ops.size)).getD t .any = if ops[i].dst = some t then X i else (mixE ops listed env (F ops.size)).getD t .any := by
              rw [getD_mixE ht, getD_mixE ht]
              obtain ⟨gN1, gN2⟩ := fget ops.size (Nat.le_refl _) t ht
              by_cases c : ops[i].dst = some t
              · rw [if_pos c, if_pos]
                · exact gN1 i hi1 (by simp [writes, hp, c])
                · unfold wr
                  rw [List.any_eq_true]
                  exact ⟨i, by simpa using hi1, by rw [gl, if_pos rfl]; simp [writes, hp, c]⟩
              · rw [if_neg c]
                have e2 : wr ops (listed.setIfInBounds i true) t = wr ops listed t := by
                  unfold wr
                  apply Bool.eq_iff_iff.2
                  rw [List.any_eq_true, List.any_eq_true]
                  constructor
                  · rintro ⟨j, hj1, hj2⟩
                    simp only [Bool.and_eq_true] at hj2
                    refine ⟨j, hj1, ?_⟩
                    rw [gl] at hj2
                    by_cases ej : j = i
                    · subst ej; exact absurd (by simpa [writes, hp] using hj2.2) c
                    · rw [if_neg ej] at hj2; simp [hj2.1, hj2.2]
                  · rintro ⟨j, hj1, hj2⟩
                    simp only [Bool.and_eq_true] at hj2
                    refine ⟨j, hj1, ?_⟩
                    rw [gl]
                    split <;> simp [hj2.1, hj2.2]
                rw [e2]
            rw [e]
            exact h1
          · rw [gl] at hk ⊢
            split
            · rfl
            · by_cases ek : k = i
              · subst ek
                rw [hp] at hp'; cases hp'
                exact hi3 _ hp e he hb
              · rw [if_neg ek] at hk
                exact i6 k hk p hp' e he hb
        have hcount : ((List.range ops.size).filter fun j => !(listed.setIfInBounds i true).getD j false).length = fuel := by
          have h1 : ((List.range ops.size).filter fun j => !listed.getD j false) = (List.range ops.size).filter fun j => !listed.getD j false := rfl
          have hperm : ∀ l : List Nat, l.Nodup → i ∈ l → (l.filter fun j => !listed.getD j false).length = (l.filter fun j => !(listed.setIfInBounds i true).getD j false).length + 1 := by
            intro l
            have gl : ∀ k, (listed.setIfInBounds i true).getD k false = if k = i then true else listed.getD k false := by
              intro k
              rw [Array.getD_eq_getD_getElem?, Array.getD_eq_getD_getElem?]
              by_cases e : i = k
              · subst e; simp [show i < listed.size by omega]
              · rw [Array.getElem?_setIfInBounds_ne e, if_neg (fun h => e h.symm)]
            induction l with
            | nil => intro _ h; cases h
            | cons x r ihr =>
              intro hnd hmem
              rw [List.nodup_cons] at hnd
              by_cases e : x = i
              · subst e
                have hrest : (r.filter fun j => !listed.getD j false) = r.filter fun j => !(listed.setIfInBounds x true).getD j false := by
                  apply List.filter_congr
                  intro j hj
                  rw [gl, if_neg (by rintro rfl; exact hnd.1 hj)]
                rw [List.filter_cons, List.filter_cons, if_pos (by rw [hnl]; rfl), if_neg (by rw [gl, if_pos rfl]; decide), hrest]
                simp
              · have hm : i ∈ r := by
                  cases hmem with
                  | head => exact absurd rfl e
                  | tail _ h => exact h
                have := ihr hnd.2 hm
                simp only [List.filter_cons, gl x, if_neg e]
                split <;> simp only [List.length_cons, this]
          have := hperm _ List.nodup_range (by simpa using hi1)
          omega
        have gl : ∀ k, (listed.setIfInBounds i true).getD k false = if k = i then true else listed.getD k false := by
          intro k
          rw [Array.getD_eq_getD_getElem?, Array.getD_eq_getD_getElem?]
          by_cases e : i = k
          · subst e; simp [show i < listed.size by omega]
          · rw [Array.getElem?_setIfInBounds_ne e, if_neg (fun h => e h.symm)]
        have hlook := hagree
        unfold wpOp
        rw [hp]
        simp only
        by_cases hk : ks.contains i = true
        · -- one that turns the objects
          rw [if_pos hk] at hfact
          obtain ⟨hgn, Q0, hq0, hwp⟩ := hfact _ hLi σ' w' a' _ i1 i5 hlook (by rw [length_mixE, flen i (by omega)])
          have hwt : Region.wanted ops[i] (yielded ops a'.tmps) = true := by simp [Region.wanted, hgn]
          simp only [hwt, if_true]
          refine .inl (upon_mono ?_ (fun e a w h => absurd h (hq0 e a w)) hwp)
          rintro a2 w2 ⟨v, σ2, rfl, hI2, hX2, hr2⟩
          exact ih _ _ _ hcount (hdone v σ2 w2 _ (by rw [glF]) hI2 hX2 hr2)
        · rw [if_neg hk] at hfact
          have hnx : S (fl (listed.setIfInBounds i true)) = S (fl listed) := by rw [glF]; exact hSk _ _ (by simpa using hk)
          obtain ⟨hrun, hskip⟩ := hfact _ hLi σ' w' a' _ i1 i5 hlook (by rw [length_mixE, flen i (by omega)])
          cases hwt : Region.wanted ops[i] (yielded ops a'.tmps) with
          | true =>
            simp only [if_true]
            obtain ⟨Q0, hq0, hwp⟩ := hrun hwt
            refine .inl (upon_mono ?_ (fun e a w h => absurd h (hq0 e a w)) hwp)
            rintro a2 w2 ⟨v, σ2, rfl, hI2, hX2, hr2⟩
            exact ih _ _ _ hcount (hdone v σ2 w2 _ (by rw [hnx]) hI2 hX2 hr2)
          | false =>
            simp only [Bool.false_eq_true, if_false]
            exact ih _ _ _ hcount (hdone undef σ' w' _ (by rw [hnx]) i1 (Ext.refl _ _ _) (hskip hwt))
  have hd0 : Ext st σ w st σ { w with drawn := w.drawn + 1 } := Ext.drew _
  have hg0 : S (fl (Array.replicate ops.size false)) = st := by
    rw [← hS0]
    congr 1
    funext k
    simp [fl, Array.getD]
  refine wp_region_any hm (key ops.size _ a _ ?_ ⟨σ, by rw [hg0]; exact hI.drew _, by rw [hg0]; exact hd0, hd, by simp, ?_, fun i hi => ?_⟩)
  · have : ((List.range ops.size).filter fun j => !(Array.replicate ops.size false).getD j false) = List.range ops.size := by
      apply List.filter_eq_self.2
      intro j hj
      simp [Array.getD]
    rw [this]; simp
  · have e : mixE ops (Array.replicate ops.size false) env (F ops.size) = env := by
      apply List.ext_getElem?
      intro t
      by_cases ht : t < env.length
      · have hw : wr ops (Array.replicate ops.size false) t = false := by
          unfold wr
          rw [List.any_eq_false]
          intro j hj
          simp [Array.getD]
        simp [mixE, hw, ht]
      · rw [List.getElem?_eq_none (by rw [length_mixE]; omega), List.getElem?_eq_none (by omega)]
    rw [e, hg0]
    exact hR.ext hd0
  · simp [Array.getD] at hi
def eqN : List Nat → List Nat → Bool
  | [], [] => true
  | a :: b, c :: d => decide (a = c) && eqN b d
  | _, _ => false
def look : List (List Nat × St) → List Nat → St
  | [], _ => []
  | (c, s) :: r, d => if eqN c d = true then s else look r d
@[go_sem] theorem eqN_nil : eqN [] [] = true := rfl
@[go_sem] theorem eqN_l (a : Nat) (b : List Nat) : eqN (a :: b) [] = false := rfl
@[go_sem] theorem eqN_r (a : Nat) (b : List Nat) : eqN [] (a :: b) = false := rfl
@[go_sem] theorem eqN_c (a c : Nat) (b d : List Nat) : eqN (a :: b) (c :: d) = (decide (a = c) && eqN b d) := rfl
@[go_sem] theorem look_c (c d : List Nat) (s : St) (r : List (List Nat × St)) : look ((c, s) :: r) d = if eqN c d = true then s else look r d := rfl
def ins (ks c : List Nat) (i : Nat) : List Nat := ks.filter fun k => c.contains k || k == i
def subs : List Nat → List (List Nat)
  | [] => [[]]
  | k :: r => subs r ++ (subs r).map (k :: ·)
def alw (ops : Array Oper) (ks : List Nat) (i : Nat) : List (List Nat) :=
  (subs ks).filter fun c => ks.all fun k => if c.contains k then k != i && !ancB ops ops.size k i && ks.all (fun j => c.contains j || !ancB ops ops.size k j) else !ancB ops ops.size i k
def drawD (P : Program) (M : List Nat) (ds : List (Option Tmp)) (ks : List Nat) (tbl : List (List Nat × St)) : Nat → List (List (List Nat)) → List Oper → List SV → (List SV → Prop) → Prop
  | _, _, [], env, K => K env
  | i, L :: Ls, o :: r, env, K => ∃ X, (if ks.contains i then o.guard = none ∧ ∀ c ∈ L, effSpec P M o (onlyAt (opTmps o.op.operands.toList) 0 env) (look tbl c) (fun x s => x = X ∧ s = look tbl (ins ks c i))
      else ∀ c ∈ L, d1Spec P M ds o env (look tbl c) (fun x => x = X)) ∧ drawD P M ds ks tbl (i + 1) Ls r (putE env o.dst X) K
  | _, [], _ :: _, _, _ => False
theorem subs_filter (f : Nat → Bool) : ∀ ks : List Nat, ks.filter f ∈ subs ks
  | [] => by simp [subs]
  | k :: r => by
    have := subs_filter f r
    simp only [subs, List.filter_cons, List.mem_append, List.mem_map]
    split
    · exact .inr ⟨_, this, rfl⟩
    · exact .inl this
theorem anc_flag {ops : Array Oper} {f : Nat → Bool} (hcl : ∀ k, f k = true → ∀ p, ops[k]? = some p → ∀ e, e ∈ p.after.toList → Region.binds .any e = true → f e.on = true) :
    ∀ (n i j : Nat), (∀ p, ops[i]? = some p → ∀ e, e ∈ p.after.toList → Region.binds .any e = true → f e.on = true) → ancB ops n i j = true → f j = true
  | 0, i, j, _, h => by cases h
  | n + 1, i, j, hi, h => by
    simp only [ancB] at h
    split at h
    · rename_i o ho
      rw [List.any_eq_true] at h
      obtain ⟨e, he, h⟩ := h
      simp only [Bool.and_eq_true, Bool.or_eq_true, beq_iff_eq] at h
      have h1 := hi o ho e he h.1
      rcases h.2 with h2 | h2
      · rw [← h2]; exact h1
      · exact anc_flag hcl n e.on j (fun p hp e' he' hb => hcl e.on h1 p hp e' he' hb) h2
    · cases h
theorem alw_mem {ops : Array Oper} {ks : List Nat} {f : Nat → Bool} {i : Nat} (h : Listed ops f i) : ks.filter f ∈ alw ops ks i := by
  obtain ⟨h1, h2, h3⟩ := h
  unfold alw
  rw [List.mem_filter]
  refine ⟨subs_filter f ks, ?_⟩
  rw [List.all_eq_true]
  intro k hk
  by_cases hf : f k = true
  · have hc : (ks.filter f).contains k = true := by simp [hk, hf]
    rw [if_pos hc]
    simp only [Bool.and_eq_true, bne_iff_ne, ne_eq, Bool.not_eq_true', List.all_eq_true, Bool.or_eq_true]
    refine ⟨⟨(by rintro rfl; rw [hf] at h2; cases h2), ?_⟩, fun j hj => ?_⟩
    · cases hv : ancB ops ops.size k i with
      | false => rfl
      | true =>
        have := anc_flag h1 _ k i (fun p hp e he hb => h1 k hf p hp e he hb) hv
        rw [h2] at this; cases this
    · cases hv : ancB ops ops.size k j with
      | false => exact .inr rfl
      | true =>
        have := anc_flag h1 _ k j (fun p hp e he hb => h1 k hf p hp e he hb) hv
        exact .inl (by simp [hj, this])
  · have hc : (ks.filter f).contains k = false := by
      rw [Bool.eq_false_iff]
      simp [hf]
    rw [if_neg (by rw [hc]; decide)]
    cases hv : ancB ops ops.size i k with
    | false => rfl
    | true =>
      have := anc_flag h1 _ i k h3 hv
      rw [this] at hf; exact absurd rfl hf
theorem ins_upd (f : Nat → Bool) (ks : List Nat) (i : Nat) (hi : ks.contains i = true) : ks.filter (upd f i) = ins ks (ks.filter f) i := by
  unfold ins
  apply List.filter_congr
  intro k hk
  unfold upd
  by_cases e : k = i
  · simp [e]
  · have : (k == i) = false := by simpa using e
    rw [if_neg e, this, Bool.or_false]
    cases hf : f k <;> simp [hk, hf]
theorem upd_out (f : Nat → Bool) (ks : List Nat) (i : Nat) (hi : ks.contains i = false) : ks.filter (upd f i) = ks.filter f := by
  apply List.filter_congr
  intro k hk
  unfold upd
  rw [if_neg]
  rintro rfl
  simp [hk] at hi
theorem drawS_of {M : List Nat} {ops : Array Oper} {ks : List Nat} {tbl : List (List Nat × St)} {K : List SV → Prop} : ∀ (n : Nat) (l : List Oper) (env : List SV) (T : List (List (List Nat))), ops.toList.drop n = l → T = ((List.range ops.size).map (alw ops ks)).drop n →
    drawD P M (ops.toList.map (·.dst)) ks tbl n T l env K → drawS P M ops ks (fun f => look tbl (ks.filter f)) n l env K
  | n, [], env, T, hl, hT, h => by
    have h' : K env := by cases T <;> exact h
    exact h'
  | n, o :: r, env, T, hl, hT, h => by
    have hr : ops.toList.drop (n + 1) = r := by rw [← List.drop_drop, hl]; rfl
    have hn : n < ops.size := by
      have := congrArg List.length hl
      simp at this
      omega
    have e1 : ((List.range ops.size).map (alw ops ks)).drop n = alw ops ks n :: ((List.range ops.size).map (alw ops ks)).drop (n + 1) := by
      rw [List.drop_eq_getElem_cons (by simpa using hn)]
      simp
    rw [e1] at hT
    subst hT
    simp only [drawD] at h
    obtain ⟨X, h1, h2⟩ := h
    refine ⟨X, ?_, drawS_of (n + 1) r _ _ hr rfl h2⟩
    by_cases hk : ks.contains n = true
    · rw [if_pos hk] at h1 ⊢
      refine ⟨h1.1, fun f hf => ?_⟩
      have := h1.2 _ (alw_mem hf)
      rwa [← ins_upd f ks n hk] at this
    · rw [if_neg hk] at h1 ⊢
      exact fun f hf => h1 _ (alw_mem hf)
theorem awp_drawD (M : List Nat) (ks : List Nat) (tbl : List (List Nat × St)) (T : List (List (List Nat))) {id : Nat} {ops : Array Oper} {Q : Exit → List SV → St → Prop} {env : List SV} {st s' : St} (hm : P.follows .mixedOrders = true) (hf : flowOk ops = true)
    (hT : (List.range ops.size).map (alw ops ks) = T) (hkn : ks.all (· < ops.size) = true) (h0 : look tbl [] = st) (hN : look tbl ks = s') (h : drawD P M (ops.toList.map (·.dst)) ks tbl 0 T ops.toList env fun e => Q .normal e s') : AWp P (.region id ops true) Q env st := by
  refine awp_drawS M ks (fun f => look tbl (ks.filter f)) hm hf ?_ ?_ ?_
  · have : ks.filter (fun _ => false) = [] := by simp
    rw [← h0]
    simp only [this]
  · intro f i hi
    simp only [upd_out f ks i hi]
  · have e : ks.filter (fun i => decide (i < ops.size)) = ks := by
      apply List.filter_eq_self.2
      intro k hk
      rw [List.all_eq_true] at hkn
      exact hkn k hk
    refine drawS_of 0 _ _ T rfl (by rw [hT]; rfl) ?_
    simp only [e, hN]
    exact h
section
variable {M : List Nat} {ds : List (Option Tmp)} {ks : List Nat} {tbl : List (List Nat × St)} {i : Nat} {Ls : List (List (List Nat))} {o : Oper} {r : List Oper} {env : List SV} {K : List SV → Prop} {c c2 d d2 : List Nat}
theorem dD_p1 (hk : ks.contains i = false) (X : SV) (h1 : d1Spec P M ds o env (look tbl c) (fun x => x = X)) (h2 : drawD P M ds ks tbl (i + 1) Ls r (putE env o.dst X) K) : drawD P M ds ks tbl i ([c] :: Ls) (o :: r) env K := by
  refine ⟨X, ?_, h2⟩
  rw [if_neg (by rw [hk]; decide)]
  intro x hx
  simp only [List.mem_singleton] at hx
  subst hx; exact h1
theorem dD_p2 (hk : ks.contains i = false) (X : SV) (h1 : d1Spec P M ds o env (look tbl c) (fun x => x = X)) (h1' : d1Spec P M ds o env (look tbl c2) (fun x => x = X)) (h2 : drawD P M ds ks tbl (i + 1) Ls r (putE env o.dst X) K) : drawD P M ds ks tbl i ([c, c2] :: Ls) (o :: r) env K := by
  refine ⟨X, ?_, h2⟩
  rw [if_neg (by rw [hk]; decide)]
  intro x hx
  simp only [List.mem_cons, List.not_mem_nil, or_false] at hx
  rcases hx with rfl | rfl
  · exact h1
  · exact h1'
theorem dD_t1 (hk : ks.contains i = true) (hd : ins ks c i = d) (X : SV) (hg : o.guard = none) (h1 : effSpec P M o (onlyAt (opTmps o.op.operands.toList) 0 env) (look tbl c) (fun x s => x = X ∧ s = look tbl d)) (h2 : drawD P M ds ks tbl (i + 1) Ls r (putE env o.dst X) K) : drawD P M ds ks tbl i ([c] :: Ls) (o :: r) env K := by
  refine ⟨X, ?_, h2⟩
  rw [if_pos hk]
  refine ⟨hg, fun x hx => ?_⟩
  simp only [List.mem_singleton] at hx
  subst hx; rw [hd]; exact h1
theorem dD_t2 (hk : ks.contains i = true) (hd : ins ks c i = d) (hd2 : ins ks c2 i = d2) (X : SV) (hg : o.guard = none) (h1 : effSpec P M o (onlyAt (opTmps o.op.operands.toList) 0 env) (look tbl c) (fun x s => x = X ∧ s = look tbl d))
    (h1' : effSpec P M o (onlyAt (opTmps o.op.operands.toList) 0 env) (look tbl c2) (fun x s => x = X ∧ s = look tbl d2)) (h2 : drawD P M ds ks tbl (i + 1) Ls r (putE env o.dst X) K) : drawD P M ds ks tbl i ([c, c2] :: Ls) (o :: r) env K := by
  refine ⟨X, ?_, h2⟩
  rw [if_pos hk]
  refine ⟨hg, fun x hx => ?_⟩
  simp only [List.mem_cons, List.not_mem_nil, or_false] at hx
  rcases hx with rfl | rfl
  · rw [hd]; exact h1
  · rw [hd2]; exact h1'
theorem dD_end (h : K env) : drawD P M ds ks tbl i Ls [] env K := by cases Ls <;> exact h
end
end Go.AL
set_option linter.unusedVariables false
namespace Go.AL
variable {P : Program}
theorem Ids.mono {n m : Nat} {x : SV} (k : Ids n x) (h : n ≤ m) : Ids m x := by
  induction k with
  | any => exact .any
  | sc v => exact .sc v
  | slice md z l hm _ ih => exact .slice md z l (fun id ver e => Nat.lt_of_lt_of_le (hm id ver e) h) ih
  | ref l _ ih => exact .ref l ih
  | ptr id off h1 => exact .ptr id off (Nat.lt_of_lt_of_le h1 h)
  | func fn l k _ _ i1 i2 => exact .func fn l k i1 i2
  | agg l _ ih => exact .agg l ih
  | tuple l _ ih => exact .tuple l ih
  | gd g x _ ih => exact .gd g x ih
  | slc id z off len cap h1 => exact .slc id z off len cap (Nat.lt_of_lt_of_le h1 h)
  | mp id h1 => exact .mp id (Nat.lt_of_lt_of_le h1 h)
  | stamp id j h1 => exact .stamp id j (Nat.lt_of_lt_of_le h1 h)
  | arr id ver m h1 => exact .arr id ver m (Nat.lt_of_lt_of_le h1 h)
  | aptr id ver off h1 => exact .aptr id ver off (Nat.lt_of_lt_of_le h1 h)
theorem ObIds.mono {n m : Nat} (h : n ≤ m) {o : Ob} (k : ObIds n o) : ObIds m o := by
  cases o with
  | cells l => exact fun j hj => (k j hj).mono h
  | map es => exact fun j hj => (k j hj).mono h
  | tok v => trivial
  | glob _ _ => trivial
  | arr v z cs => exact fun j hj => (k j hj).mono h
structure Mod (st s1 : St) : Prop where
  len : st.length ≤ s1.length
  all : ∀ (id : Nat) (o : Ob), s1[id]? = some o → st[id]? = some o ∨ ObIds s1.length o
theorem Mod.refl (st : St) : Mod st st := ⟨Nat.le_refl _, fun _ _ h => .inl h⟩
theorem Mod.set {st s1 : St} (h : Mod st s1) (id : Nat) (X : Ob) (hX : ObIds s1.length X) : Mod st (s1.set id X) := by
  refine ⟨by simpa using h.len, fun j o ho => ?_⟩
  by_cases e : j = id
  · subst e
    have hlt := lt_of_get ho
    rw [List.length_set] at hlt
    rw [set_get hlt] at ho
    cases ho
    exact .inr (by simpa using hX)
  · rw [set_get_ne e] at ho
    rw [List.length_set]
    exact h.all j o ho
theorem Mod.app {st s1 : St} (h : Mod st s1) (l : List Ob) (hl : ∀ o ∈ l, ObIds (s1.length + l.length) o) : Mod st (s1 ++ l) := by
  refine ⟨by have := h.len; simp; omega, fun j o ho => ?_⟩
  rw [List.length_append]
  by_cases e : j < s1.length
  · rw [List.getElem?_append_left e] at ho
    exact (h.all j o ho).imp (fun h => h) fun h => h.mono (by omega)
  · rw [List.getElem?_append_right (by omega)] at ho
    exact .inr (hl o (List.mem_of_getElem? ho))
theorem Mod.trans {a b c : St} (h : Mod a b) (k : Mod b c) : Mod a c :=
  ⟨Nat.le_trans h.len k.len, fun id o ho => (k.all id o ho).elim (fun h1 => (h.all id o h1).imp (fun h => h) fun h2 => h2.mono k.len) .inr⟩
def FinM (st : St) (K : SV → St → Prop) : SV → St → Prop := fun x s => ∃ s1 ex, s = s1 ++ ex ∧ Mod st s1 ∧ Ids s1.length (norm x) ∧ K (norm x) s1
theorem acalls_mod {f : FuncId} {args : List SV} {K : SV → St → Prop} {st : St} (h : ACalls P f args (FinM st K) st) : ACalls P f args K st := by
  intro σ w vs hI hR
  refine acalls_drop (h.mono ?_) σ w vs hI hR
  rintro x s ⟨s1, ex, rfl, hm, hids, hk⟩
  exact ⟨s1, ex, rfl, hm.len, fun id o ho => (hm.all id o ho).elim (fun h1 => (hI.obIds id o h1).mono hm.len) fun h => h, hids, hk⟩
theorem acalls_go_mod (M : List Nat) {f : FuncId} {fn : Func} {c : Code} {rs : Array ResultVar} {n : Nat} {args : List SV} {K : SV → St → Prop} {st : St} (hf : P.funcs[f]? = some fn) (hb : fn.body = some c)
    (hr : fn.results = rs) (hn : fn.ntmps = n) (h : cSpec P M c (RetR P rs.toList (FinM st K)) (args ++ List.replicate (n - args.length) .any) st) :
    ACalls P f args K st := acalls_mod (acalls_go hf hb hr hn h)
theorem objAt_eq {st : St} {id : Nat} {l : List SV} (h : st[id]? = some (.cells l)) : objAt st id = l := by simp [objAt, h]
theorem isObj_eq {st : St} {id : Nat} {l : List SV} (h : st[id]? = some (.cells l)) : isObj st id = True := eq_true (by unfold isObj; rw [h]; trivial)
theorem arrOk_eq {st : St} {id v v' z : Nat} {l : List SV} (h : st[id]? = some (.arr v z l)) : arrOk st id v' = (v = v') := by simp [arrOk, h]
theorem arrZ_eq {st : St} {id v z : Nat} {l : List SV} (h : st[id]? = some (.arr v z l)) : arrZ st id = z := by simp [arrZ, h]
theorem arrC_eq {st : St} {id v z : Nat} {l : List SV} (h : st[id]? = some (.arr v z l)) : arrC st id = l := by simp [arrC, h]
theorem tokAt_eq {st : St} {id v v' : Nat} (h : st[id]? = some (.tok v)) : tokAt st id v' = (v = v') := by simp [tokAt, h]
theorem mapAt_eq {st : St} {id : Nat} {es : List (Value × SV)} (h : st[id]? = some (.map es)) : mapAt st id = some es := by simp [mapAt, h]
theorem get_app {st : St} {id : Nat} {o : Ob} (h : st[id]? = some o) (ex : St) : (st ++ ex)[id]? = some o := by rw [List.getElem?_append_left (lt_of_get h)]; exact h
theorem get_set_ne {st : St} {id j : Nat} {o : Ob} (h : st[id]? = some o) (X : Ob) (hne : id ≠ j) : (st.set j X)[id]? = some o := by rw [set_get_ne hne]; exact h
theorem get_setS {st : St} {id : Nat} {o : Ob} (h : st[id]? = some o) (X : Ob) : (st.set id X)[id]? = some X := set_get (lt_of_get h)
theorem set_app_l {st : St} {id : Nat} {o : Ob} (h : st[id]? = some o) (ex : St) (X : Ob) : (st ++ ex).set id X = st.set id X ++ ex := by rw [List.set_append_left _ _ (lt_of_get h)]
def inS (st : St) (id : Nat) : Prop := id < st.length
theorem inS_of {st : St} {id : Nat} {o : Ob} (h : st[id]? = some o) : inS st id = True := eq_true (lt_of_get h)
theorem inS_get {st : St} {id : Nat} {o : Ob} (h : st[id]? = some o) : inS st id := lt_of_get h
section
variable {st s l : St} {id j n k : Nat} {X : Ob} {xs : List SV} {es : List (Value × SV)} {v v' z : Nat}
theorem inS_app (h : inS st id) : inS (st ++ l) id = True := eq_true (by unfold inS at *; simp; omega)
theorem inS_set : inS (st.set j X) id = inS st id := by simp [inS]
theorem set_appI (h : inS st id) : (st ++ l).set id X = st.set id X ++ l := by rw [List.set_append_left _ _ h]
theorem set_set_same {Y : Ob} : (st.set id X).set id Y = st.set id Y := List.set_set ..
theorem objAt_appI (h : inS st id) : objAt (st ++ l) id = objAt st id := by simp only [objAt]; rw [List.getElem?_append_left h]
theorem isObj_appI (h : inS st id) : isObj (st ++ l) id = isObj st id := by simp only [isObj]; rw [List.getElem?_append_left h]
theorem arrOk_appI (h : inS st id) : arrOk (st ++ l) id v = arrOk st id v := by simp only [arrOk]; rw [List.getElem?_append_left h]
theorem arrZ_appI (h : inS st id) : arrZ (st ++ l) id = arrZ st id := by simp only [arrZ]; rw [List.getElem?_append_left h]
theorem arrC_appI (h : inS st id) : arrC (st ++ l) id = arrC st id := by simp only [arrC]; rw [List.getElem?_append_left h]
theorem mapAt_appI (h : inS st id) : mapAt (st ++ l) id = mapAt st id := by simp only [mapAt]; rw [List.getElem?_append_left h]
theorem tokAt_appI (h : inS st id) : tokAt (st ++ l) id v = tokAt st id v := by simp only [tokAt]; rw [List.getElem?_append_left h]
theorem objAt_setI (h : inS st id) : objAt (st.set id (.cells xs)) id = xs := by simp only [objAt]; rw [set_get h]
theorem isObj_setI (h : inS st id) : isObj (st.set id (.cells xs)) id = True := by simp only [isObj]; rw [set_get h]
theorem arrOk_setI (h : inS st id) : arrOk (st.set id (.arr v z xs)) id v' = (v = v') := by simp only [arrOk]; rw [set_get h]
theorem arrZ_setI (h : inS st id) : arrZ (st.set id (.arr v z xs)) id = z := by simp only [arrZ]; rw [set_get h]
theorem arrC_setI (h : inS st id) : arrC (st.set id (.arr v z xs)) id = xs := by simp only [arrC]; rw [set_get h]
theorem mapAt_setI (h : inS st id) : mapAt (st.set id (.map es)) id = some es := by simp only [mapAt]; rw [set_get h]
theorem tokAt_setI (h : inS st id) : tokAt (st.set id (.tok v)) id v' = (v = v') := by simp only [tokAt]; rw [set_get h]; simp
theorem objAt_setN (h : id ≠ j) : objAt (st.set j X) id = objAt st id := by simp only [objAt, set_get_ne h]
theorem isObj_setN (h : id ≠ j) : isObj (st.set j X) id = isObj st id := by simp only [isObj, set_get_ne h]
theorem arrOk_setN (h : id ≠ j) : arrOk (st.set j X) id v = arrOk st id v := by simp only [arrOk, set_get_ne h]
theorem arrZ_setN (h : id ≠ j) : arrZ (st.set j X) id = arrZ st id := by simp only [arrZ, set_get_ne h]
theorem arrC_setN (h : id ≠ j) : arrC (st.set j X) id = arrC st id := by simp only [arrC, set_get_ne h]
theorem mapAt_setN (h : id ≠ j) : mapAt (st.set j X) id = mapAt st id := by simp only [mapAt, set_get_ne h]
theorem tokAt_setN (h : id ≠ j) : tokAt (st.set j X) id v = tokAt st id v := by simp only [tokAt, set_get_ne h]
theorem objAt_newC (h : st.length = n) : objAt (st ++ l) (n + k) = objAt l k := by subst h; exact obj_app' _ _ _
theorem isObj_newC (h : st.length = n) : isObj (st ++ l) (n + k) = isObj l k := by subst h; exact isObj_app' _ _ _
theorem tokAt_newC (h : st.length = n) : tokAt (st ++ l) (n + k) v = tokAt l k v := by subst h; exact tok_app' _ _ _ _
theorem set_newC (h : st.length = n) : (st ++ l).set (n + k) X = st ++ l.set k X := by subst h; exact set_app' _ _ _ _
theorem arrOk_newC (h : st.length = n) : arrOk (st ++ l) (n + k) v = arrOk l k v := by subst h; simp [arrOk, List.getElem?_append_right]
theorem arrZ_newC (h : st.length = n) : arrZ (st ++ l) (n + k) = arrZ l k := by subst h; simp [arrZ, List.getElem?_append_right]
theorem arrC_newC (h : st.length = n) : arrC (st ++ l) (n + k) = arrC l k := by subst h; simp [arrC, List.getElem?_append_right]
theorem mapAt_newC (h : st.length = n) : mapAt (st ++ l) (n + k) = mapAt l k := by subst h; simp [mapAt, List.getElem?_append_right]
theorem objAt_newC0 (h : st.length = n) : objAt (st ++ l) n = objAt l 0 := objAt_newC (k := 0) h
theorem isObj_newC0 (h : st.length = n) : isObj (st ++ l) n = isObj l 0 := isObj_newC (k := 0) h
theorem tokAt_newC0 (h : st.length = n) : tokAt (st ++ l) n v = tokAt l 0 v := tokAt_newC (k := 0) h
theorem set_newC0 (h : st.length = n) : (st ++ l).set n X = st ++ l.set 0 X := set_newC (k := 0) h
theorem arrOk_newC0 (h : st.length = n) : arrOk (st ++ l) n v = arrOk l 0 v := arrOk_newC (k := 0) h
theorem arrZ_newC0 (h : st.length = n) : arrZ (st ++ l) n = arrZ l 0 := arrZ_newC (k := 0) h
theorem arrC_newC0 (h : st.length = n) : arrC (st ++ l) n = arrC l 0 := arrC_newC (k := 0) h
theorem mapAt_newC0 (h : st.length = n) : mapAt (st ++ l) n = mapAt l 0 := mapAt_newC (k := 0) h
theorem arrOk_zero {xs : List SV} : arrOk (.arr v z xs :: l) 0 v' = (v = v') := by simp [arrOk]
theorem arrZ_zero {xs : List SV} : arrZ (.arr v z xs :: l) 0 = z := rfl
theorem arrC_zero {xs : List SV} : arrC (.arr v z xs :: l) 0 = xs := rfl
theorem mapAt_zero : mapAt (.map es :: l) 0 = some es := rfl
theorem arrOk_succ {o : Ob} : arrOk (o :: l) (k + 1) v = arrOk l k v := rfl
theorem arrZ_succ {o : Ob} : arrZ (o :: l) (k + 1) = arrZ l k := rfl
theorem arrC_succ {o : Ob} : arrC (o :: l) (k + 1) = arrC l k := rfl
theorem mapAt_succ {o : Ob} : mapAt (o :: l) (k + 1) = mapAt l k := rfl
end
attribute [go_sem] inS_app inS_set set_appI set_set_same objAt_appI isObj_appI arrOk_appI arrZ_appI arrC_appI mapAt_appI tokAt_appI objAt_setI isObj_setI arrOk_setI arrZ_setI arrC_setI mapAt_setI tokAt_setI
  objAt_setN isObj_setN arrOk_setN arrZ_setN arrC_setN mapAt_setN tokAt_setN objAt_newC isObj_newC tokAt_newC set_newC arrOk_newC arrZ_newC arrC_newC mapAt_newC objAt_newC0 isObj_newC0 tokAt_newC0 set_newC0 arrOk_newC0 arrZ_newC0 arrC_newC0 mapAt_newC0
  arrOk_zero arrZ_zero arrC_zero mapAt_zero arrOk_succ arrZ_succ arrC_succ mapAt_succ
theorem cells_facts {st : St} {id : Nat} {l : List SV} (h : st[id]? = some (.cells l)) : inS st id = True ∧ isObj st id = True ∧ objAt st id = l := ⟨inS_of h, isObj_eq h, objAt_eq h⟩
theorem map_facts {st : St} {id : Nat} {l : List (Value × SV)} (h : st[id]? = some (.map l)) : inS st id = True ∧ mapAt st id = some l := ⟨inS_of h, mapAt_eq h⟩
theorem arr_facts {st : St} {id v z : Nat} {l : List SV} (h : st[id]? = some (.arr v z l)) : inS st id = True ∧ arrOk st id v = True ∧ arrZ st id = z ∧ arrC st id = l := ⟨inS_of h, by rw [arrOk_eq h]; simp, arrZ_eq h, arrC_eq h⟩
section
variable {M : List Nat} {t : TypeId} {x k m v s : Operand} {ρ : Operand → SV} {st : St} {env : List SV} {K : SV → St → Prop} {d : Option Tmp} {ty : TypeId} {pos : String} {aft : Array Edge} {gu : Option (Nat × Bool)} {id : Nat} {p : Prop} {ok : Bool}
@[go_sem] theorem kind_makeMap {r : Option Operand} : kindOf (.makeMap t r) = .eff := rfl
@[go_sem] theorem eff_makeMap : effSpec P M ⟨d, .makeMap t none, ty, pos, aft, gu⟩ env st K = K (.mp st.length) (st ++ [.map []]) := rfl
@[go_sem] theorem kind_lookup : kindOf (.lookup t x k ok) = .pure := rfl
@[go_sem] theorem ok_lookup : okCore P st ρ (.lookup t x k ok) = ((mapGet P t st (ρ x) (ρ k)).isSome = true) := rfl
@[go_sem] theorem val_lookup1 : valCore P st ρ (.lookup t x k true) = match mapGet P t st (ρ x) (ρ k) with | some (y, b) => .tuple [y, .sc (.bool b)] | none => .any := rfl
@[go_sem] theorem val_lookup0 : valCore P st ρ (.lookup t x k false) = match mapGet P t st (ρ x) (ρ k) with | some (y, b) => y | none => .any := rfl
@[go_sem] theorem kind_mapUpdate : kindOf (.mapUpdate t m k v) = .eff := rfl
@[go_sem] theorem eff_mapUpdate : effSpec P M ⟨d, .mapUpdate t m k v, ty, pos, aft, gu⟩ env st K = (d = none ∧ putSpec P t st (ev env m) (ev env k) (ev env v) (K .any ·)) := rfl
@[go_sem] theorem kind_insert : kindOf (.insert t m k v) = .eff := rfl
@[go_sem] theorem eff_insert : effSpec P M ⟨d, .insert t m k v, ty, pos, aft, gu⟩ env st K = (d = none ∧ putSpec P t st (ev env m) (ev env k) (ev env v) (K .any ·)) := rfl
@[go_sem] theorem kind_mapEntry : kindOf (.mapEntry t m k) = .eff := rfl
@[go_sem] theorem eff_mapEntry : effSpec P M ⟨d, .mapEntry t m k, ty, pos, aft, gu⟩ env st K = entrySpec P t st (ev env m) (ev env k) K := rfl
@[go_sem] theorem kind_entryStore : kindOf (.entryStore t m s v) = .eff := rfl
@[go_sem] theorem eff_entryStore : effSpec P M ⟨d, .entryStore t m s v, ty, pos, aft, gu⟩ env st K = (d = none ∧ stampSpec st (ev env v) (ev env m) (ev env s) (K .any ·)) := rfl
@[go_sem] theorem lenOk_mp : lenOk P t st (.mp id) = ((aMap P t).isSome = true ∧ (mapAt st id).isSome = true) := rfl
@[go_sem] theorem lenV_mp : lenV st (.mp id) = .sc (.int .i64 ((mapAt st id).getD []).length) := rfl
@[go_sem] theorem gIf_mp : gIf p (.mp id) = True := rfl
@[go_sem] theorem strip_mp : strip (.mp id) = .mp id := rfl
@[go_sem] theorem cells_mp : (SV.mp id).cells = [.mp id] := rfl
@[go_sem] theorem shape_mp : shapeOk (.mp id) = true := rfl
@[go_sem] theorem norm_mp : norm (.mp id) = .mp id := rfl
@[go_sem] theorem norm1_mp : norm1 (.mp id) = .mp id := rfl
@[go_sem] theorem cellOk_mp : cellOk (.mp id) = true := rfl
@[go_sem] theorem gIf_stamp {j : Nat} : gIf p (.stamp id j) = True := rfl
@[go_sem] theorem strip_stamp {j : Nat} : strip (.stamp id j) = .stamp id j := rfl
@[go_sem] theorem ids_mp_eq {n : Nat} : Ids n (.mp id) = (id < n) := propext ⟨fun h => by cases h; assumption, .mp id⟩
@[go_sem] theorem ids_ptr_eq {n off : Nat} : Ids n (.ptr id off) = (id < n) := propext ⟨fun h => by cases h; assumption, .ptr id off⟩
@[go_sem] theorem ids_arr_eq {n ver m : Nat} : Ids n (.arr id ver m) = (id < n) := propext ⟨fun h => by cases h; assumption, .arr id ver m⟩
def IntKeys (es : List (Value × SV)) : Prop := ∀ q ∈ es, ∃ n, q.1 = .int .i64 n
theorem keyGood_int {kt : TypeId} (n : Int) : keyGood P kt (.int .i64) (.int .i64 n) = true := by simp [keyGood, keyFits]
theorem intKeys_all {kt : TypeId} {es : List (Value × SV)} (h : IntKeys es) : es.all (fun q => keyGood P kt (.int .i64) q.1) = true := by
  rw [List.all_eq_true]
  intro q hq
  obtain ⟨n, hn⟩ := h q hq
  rw [hn]; exact keyGood_int n
def getOr (es : List (Value × SV)) (z : SV) (n : Int) : SV × Bool := match keyIdx es (.int .i64 n) with | some j => ((es.getD j (default, .any)).2, true) | none => (z, false)
theorem mapGet_int {kt e : TypeId} {z : SV} {n : Int} {es : List (Value × SV)} (hm : aMap P t = some (kt, .int .i64, e)) (hz : zeroSV P e = some z) (hes : mapAt st id = some es) (hk : IntKeys es) :
    mapGet P t st (.mp id) (.sc (.int .i64 n)) = some (getOr es z n) := by
  simp only [mapGet, keyOf, hm, hes, hz, keyGood_int, intKeys_all hk, Bool.and_self, if_true, getOr]
  cases keyIdx es (.int .i64 n) <;> rfl
theorem mapOk_int {kt e : TypeId} {n : Int} {es : List (Value × SV)} (hm : aMap P t = some (kt, .int .i64, e)) (hes : mapAt st id = some es) (hk : IntKeys es) :
    mapOk P t st (.mp id) (.sc (.int .i64 n)) = some (id, es, .int .i64 n, e) := by
  simp only [mapOk, keyOf, hm, hes, keyGood_int, intKeys_all hk, Bool.and_self, if_true]
theorem put_int {kt e : TypeId} {n : Int} {v : SV} {N : St → Prop} {es : List (Value × SV)} (hm : aMap P t = some (kt, .int .i64, e)) (hes : mapAt st id = some es) (hk : IntKeys es) :
    putSpec P t st (.mp id) (.sc (.int .i64 n)) v N = N (st.set id (.map (mapPut es (.int .i64 n) v))) := by
  simp only [putSpec, mapOk_int hm hes hk]
theorem entry_int {kt e : TypeId} {z : SV} {n : Int} {es : List (Value × SV)} (hm : aMap P t = some (kt, .int .i64, e)) (hz : zeroSV P e = some z) (hes : mapAt st id = some es) (hk : IntKeys es) :
    entrySpec P t st (.mp id) (.sc (.int .i64 n)) K = match keyIdx es (.int .i64 n) with
      | some j => K (.tuple [(es.getD j (default, .any)).2, .stamp id j]) st
      | none => K (.tuple [z, .stamp id es.length]) (st.set id (.map (es ++ [(.int .i64 n, z)]))) := by
  simp only [entrySpec, mapOk_int hm hes hk, hz]
  cases keyIdx es (.int .i64 n) <;> rfl
theorem intKeys_nil : IntKeys [] := fun q h => by cases h
theorem intKeys_put {es : List (Value × SV)} (h : IntKeys es) (n : Int) (v : SV) : IntKeys (mapPut es (.int .i64 n) v) := by
  unfold mapPut
  split
  · rename_i j hj
    intro q hq
    obtain ⟨i, hi⟩ := List.getElem?_of_mem hq
    by_cases e : j = i
    · subst e
      have hlt := lt_of_get hi
      rw [List.length_set] at hlt
      rw [List.getElem?_set_self hlt] at hi
      cases hi
      have : es.getD j (default, .any) ∈ es := by simp [List.getD_eq_getElem?_getD, hlt]
      obtain ⟨m, hm⟩ := h _ this
      exact ⟨m, hm⟩
    · rw [List.getElem?_set_ne e] at hi
      exact h q (List.mem_of_getElem? hi)
  · intro q hq
    rcases List.mem_append.1 hq with h1 | h1
    · exact h q h1
    · simp at h1; subst h1; exact ⟨n, rfl⟩
end
theorem forall_getD {α : Type} {l : List α} {d : α} {p : α → Prop} : (∀ j, j < l.length → p (l.getD j d)) ↔ ∀ x ∈ l, p x := by
  constructor
  · intro h x hx
    obtain ⟨i, hi⟩ := List.getElem?_of_mem hx
    have := h i (lt_of_get hi)
    rwa [List.getD_eq_getElem?_getD, hi] at this
  · intro h j hj
    rw [List.getD_eq_getElem?_getD, List.getElem?_eq_getElem hj]
    exact h _ (List.getElem_mem hj)
theorem obIds_cells {n : Nat} {l : List SV} : ObIds n (.cells l) = ∀ x ∈ l, Ids n x := propext forall_getD
theorem obIds_arr {n v z : Nat} {l : List SV} : ObIds n (.arr v z l) = ∀ x ∈ l, Ids n x := propext forall_getD
theorem obIds_map {n : Nat} {l : List (Value × SV)} : ObIds n (.map l) = ∀ x ∈ l, Ids n x.2 := propext (forall_getD (α := Value × SV) (l := l) (d := (default, .any)) (p := fun q => Ids n q.2))
theorem obIds_tok {n v : Nat} : ObIds n (.tok v) = True := rfl
end Go.AL
set_option linter.unusedVariables false
namespace Go.AL
open Go Go.RowKit
theorem kept_below {w w' : World} (h : Below w.heap.size w w') (may : MemPlace → Prop) : w.keptBut w' may := by
  refine ⟨h.os, h.output, fun i hi => ?_⟩
  rw [h.block i hi]
  split
  · rename_i e1 e2
    rw [e1] at e2; cases e2
    exact ⟨rfl, rfl, rfl, fun _ _ => rfl⟩
  · rename_i e1 e2
    rw [e1] at e2; cases e2
    exact .inr ⟨rfl, rfl⟩
  · rfl
theorem post_below {H : Type} {enc : TypeId × Value → H} {P : Program} {f : Func} {s : ChangeSpec} {apart fresh handsOn again : Bool} {W W' : World} {args : Array Value} {v : Value} {ds gs : List (DataW H)} {before pa pv : List MemPlace}
    (hW : DataW.Whole enc P f.params.toList s.vars apart W args.toList ds gs before)
    (hres : ∀ (b : Nat) (sp : Nat → Bool) (hd : Bool), DataW.TrodAll enc P W' b sp hd f.resultTypes.toList (v.resultList f.resultTypes.size) (s.fn H (ds ++ gs)).results [])
    (hargs : ∀ sp : Nat → Bool, (∀ p ∈ before, sp p.block = true) → DataW.TrodAll enc P W' 0 sp true f.params.toList args.toList (s.fn H (ds ++ gs)).args pa)
    (hvars : ∀ sp : Nat → Bool, (∀ p ∈ before, sp p.block = true) → DataW.TrodVars enc P W' sp s.vars (s.fn H (ds ++ gs)).vars pv)
    (hps : before = pa ++ pv) (hb : Below W.heap.size W W')
    (hok : ∀ (j : Nat) (t : TypeId) (r : Value), f.resultTypes[j]? = some t → (v.resultList f.resultTypes.size)[j]? = some r → Value.okWide P W' .any 0 t r) :
    s.post enc P f apart fresh handsOn again W args v W' := by
  have hold : ∀ p ∈ before, (fun b => decide (b < W.heap.size)) p.block = true := fun p hp => by simpa using hW.lt p hp
  refine ⟨ds, gs, before, [], pa, pv, hW, hres _ _ _, hargs _ hold, hvars _ hold, World.keptBut_mono (fun p hp => ⟨hp, ?_⟩) (kept_below hb (· ∈ before)), fun _ => ?_⟩
  · rw [hps, List.mem_append] at hp
    exact Or.inr hp
  · have hlt := hW.lt
    obtain ⟨_, _, _, _, _, hz, hn⟩ := hW
    refine ⟨hok, _, _, ([] ++ pa) ++ pv, ⟨[] ++ pa, pv, Go.ChangeShapes.trodAll_append (hargs _ (fun _ _ => rfl)) (hres _ _ _), hvars _ (fun _ _ => rfl), rfl, ?_, ?_⟩, ?_⟩
    · intro b off hp
      have hp' : MemPlace.cell b off ∈ before := by rw [hps]; simpa using hp
      have h1 := hz b off hp'
      have h2 := hlt _ hp'
      unfold World.frozen? at h1 ⊢
      simp only at h1 h2 ⊢
      rw [hb.block b h2]
      exact h1
    · intro ha
      have := hn ha
      rw [hps] at this
      simpa using this
    · intro p hp _
      rw [hps]
      simpa using hp
theorem i64_wf {n : Int} (h : (Lit.int .i64 n).wf = true) : -9223372036854775808 ≤ n ∧ n ≤ 9223372036854775807 := by
  have h' : (decide ((-9223372036854775808 : Int) ≤ n) && decide (n ≤ 9223372036854775807)) = true := h
  simpa using h'
end Go.AL
set_option linter.unusedVariables false
namespace Go.AL
variable {P : Program}
def Conv (st st2 : St) : Prop := ∀ σ w, Inv st σ w → ∃ σ', Inv st2 σ' w ∧ Ext st σ w st2 σ' w
theorem Conv.refl (st : St) : Conv st st := fun σ w h => ⟨σ, h, Ext.refl _ _ _⟩
theorem Conv.trans {a b c : St} (h : Conv a b) (k : Conv b c) : Conv a c := fun σ w hI => by
  obtain ⟨σ1, h1, h2⟩ := h σ w hI
  obtain ⟨σ2, k1, k2⟩ := k σ1 w h1
  exact ⟨σ2, k1, h2.trans k2⟩
theorem acalls_conv {f : FuncId} {args : List SV} {K : SV → St → Prop} {st : St} (h : ACalls P f args (fun x s => ∃ s2, Conv s s2 ∧ K x s2) st) : ACalls P f args K st := by
  intro σ w vs hI hR
  refine (h σ w vs hI hR).mono ?_
  rintro e w' ⟨v, x, s, σ', rfl, ⟨s2, hc, hk⟩, hI', hr, hX⟩
  obtain ⟨σ2, h1, h2⟩ := hc σ' w' hI'
  exact ⟨v, x, s2, σ2, rfl, hk, h1, hr.ext h2, hX.trans h2⟩
theorem conv_arrC {st : St} (id j z z' : Nat) {l : List SV} (hl : st[id]? = some (.cells l)) (hj : j < l.length) (he : l.getD j .any = .slice .full z' []) :
    Conv st (st.set id (.cells (l.set j (.arr st.length 0 0))) ++ [.arr 0 z []]) := by
  intro σ w hI
  have hX : Ext st σ w (st ++ [.arr 0 z []]) (σ.setMu st.length none) w := Ext.newOb _ none
  have hI1 := hI.newArr z
  have hlt := lt_of_get hl
  have hl1 : (st ++ [.arr 0 z []])[id]? = some (.cells l) := by rw [List.getElem?_append_left hlt]; exact hl
  obtain ⟨b0, cs0, T0, k1, k2, k3, k4, k5⟩ := hI.cells id l hl
  obtain ⟨b, cs, T, h1, h2, h3, h4, h5⟩ := hI1.cells id l hl1
  have hbb : b0 = b := by
    simp only [Sig.setMu, if_neg (show ¬ id = st.length by omega)] at h1
    rw [k1] at h1; cases h1; rfl
  subst hbb
  rw [k2] at h2; cases h2
  have hr : ∀ i, i < (l.set j (.arr st.length 0 0)).length → Rep (st ++ [.arr 0 z []]) (σ.setMu st.length none) w ((l.set j (.arr st.length 0 0)).getD i .any) (cs0.getD i default) := by
    intro i hi
    simp only [List.length_set] at hi
    by_cases e : j = i
    · subst e
      have h6 := k4 j hi
      rw [he] at h6
      have e2 : (l.set j (.arr st.length 0 0)).getD j .any = .arr st.length 0 0 := by simp [List.getD_eq_getElem?_getD, hi]
      rw [e2]
      exact rep_newArr h6
    · have := h4 i hi
      simpa [List.getD_eq_getElem?_getD, List.getElem?_set_ne e] using this
  have hX2 := Ext.write (w' := w) (l' := l.set j (.arr st.length 0 0)) hI1 hl1 h1 h5 rfl rfl rfl rfl (fun _ _ => rfl)
  have hI2 := Inv.write (w' := w) (l' := l.set j (.arr st.length 0 0)) hI1 hl1 h1 h5 rfl rfl rfl rfl (fun _ _ => rfl) k2 (by simpa using h3) hr
  have e : (st ++ [Ob.arr 0 z []]).set id (.cells (l.set j (.arr st.length 0 0))) = st.set id (.cells (l.set j (.arr st.length 0 0))) ++ [.arr 0 z []] := by
    rw [List.set_append_left _ _ hlt]
  rw [e] at hX2 hI2
  exact ⟨_, hI2, hX.trans hX2⟩
theorem conv_ownC {st : St} (id j z z' : Nat) {l : List SV} (hl : st[id]? = some (.cells l)) (hj : j < l.length) (he : l.getD j .any = .slice .full z' []) :
    Conv st (st.set id (.cells (l.set j (.slice (.own st.length 0) z []))) ++ [.tok 0]) := by
  intro σ w hI
  have hX : Ext st σ w (st ++ [.tok 0]) (σ.setMu st.length none) w := Ext.newTok none
  have hI1 := hI.newTok none (fun c hc => by cases hc)
  have hlt := lt_of_get hl
  have hl1 : (st ++ [.tok 0])[id]? = some (.cells l) := by rw [List.getElem?_append_left hlt]; exact hl
  obtain ⟨b, cs, T, h1, h2, h3, h4, h5⟩ := hI1.cells id l hl1
  have hr : ∀ i, i < (l.set j (.slice (.own st.length 0) z [])).length → Rep (st ++ [.tok 0]) (σ.setMu st.length none) w ((l.set j (.slice (.own st.length 0) z [])).getD i .any) (cs.getD i default) := by
    intro i hi
    simp only [List.length_set] at hi
    by_cases e : j = i
    · subst e
      have h6 := h4 j hi
      rw [he] at h6
      have h7 := rep_nil_z (z' := z) h6 (.inl rfl)
      have e2 : (l.set j (.slice (.own st.length 0) z [])).getD j .any = .slice (.own st.length 0) z [] := by simp [List.getD_eq_getElem?_getD, hi]
      rw [e2]
      generalize cs.getD j default = v at h7
      generalize hl' : ([] : List SV) = l' at h7
      generalize hx : SV.slice .full z l' = x at h7
      cases h7 with
      | nil m z hm => cases hx; exact .nil _ _ ⟨0, by simp, Nat.le_refl _⟩
      | slice m z l a cap vals hcap hsp hzz hc hr hm =>
        cases hx
        subst hl'
        exact .slice _ _ _ _ _ vals hcap hsp hzz hc hr ⟨0, by simp, Nat.le_refl _, fun _ => .inl hm⟩
      | _ => cases hx
    · have := h4 i hi
      simpa [List.getD_eq_getElem?_getD, List.getElem?_set_ne e] using this
  have hX2 := Ext.write (w' := w) (l' := l.set j (.slice (.own st.length 0) z [])) hI1 hl1 h1 h5 rfl rfl rfl rfl (fun _ _ => rfl)
  have hI2 := Inv.write (w' := w) (l' := l.set j (.slice (.own st.length 0) z [])) hI1 hl1 h1 h5 rfl rfl rfl rfl (fun _ _ => rfl) h2 (by simpa using h3) hr
  have e : (st ++ [Ob.tok 0]).set id (.cells (l.set j (.slice (.own st.length 0) z []))) = st.set id (.cells (l.set j (.slice (.own st.length 0) z []))) ++ [.tok 0] := by
    rw [List.set_append_left _ _ hlt]
  rw [e] at hX2 hI2
  exact ⟨_, hI2, hX.trans hX2⟩
structure Swap (st : St) (σ : Sig) (w w' : World) (b : Nat) : Prop where
  cell : ∀ a, w'.cell? a = w.cell? a
  heap : ∀ c, c ≠ b → w'.heap[c]? = w.heap[c]?
  size : w'.heap.size = w.heap.size
  os : w'.os = w.os
  tape : w'.tape = w.tape
  output : w'.output = w.output
  own : ∀ i, i < st.length → σ.μ i ≠ some b
theorem Rep.swap {st : St} {σ : Sig} {w w' : World} {b : Nat} (k : Swap st σ w w' b) {x : SV} {v : Value} (h : Rep st σ w x v) : Rep st σ w' x v := by
  have hne : ∀ {id c : Nat}, (∃ o, st[id]? = some o) → σ.μ id = some c → c ≠ b := by
    rintro id c ⟨o, ho⟩ hc rfl
    exact k.own id (lt_of_get ho) hc
  induction h with
  | any v => exact .any v
  | sc v => exact .sc v
  | nil m z hm => exact .nil m z hm
  | slice m z l a cap vals hcap hsp hz hc hr hm ih =>
    refine .slice m z l a cap vals hcap hsp hz (fun i j hi hj => by rw [k.cell]; exact hc i j hi hj) ih ?_
    cases m with
    | imm => trivial
    | full => exact hm
    | own id ver =>
      obtain ⟨v0, h1, h2, h3⟩ := hm
      refine ⟨v0, h1, h2, fun e => (h3 e).imp (fun h => h) fun ⟨q1, q2, q3, cs, T, q4, q5⟩ => ⟨q1, q2, q3, cs, T, ?_, q5⟩⟩
      rw [k.heap _ (hne ⟨_, h1⟩ q2)]; exact q4
  | ref cells b o vals hc hr ih => exact .ref cells b o vals (fun j hj => by rw [k.cell]; exact hc j hj) ih
  | ptr id off b hk hb => exact .ptr id off b hk hb
  | func fn first captured vf vc h1 h2 _ _ i1 i2 => exact .func fn first captured vf vc h1 h2 i1 i2
  | agg l vs h _ ih => exact .agg l vs h ih
  | tuple l vs h _ ih => exact .tuple l vs h ih
  | gd g x v _ h' ih => exact .gd g x v ih h'
  | slc id z off len cap b hk hb hc => exact .slc id z off len cap b hk hb hc
  | mp id b hk hb => exact .mp id b hk hb
  | stamp id j c ents clock hk hb hh hj =>
    obtain ⟨es, he⟩ := hk
    exact .stamp id j c ents clock ⟨es, he⟩ hb (by rw [k.heap _ (hne ⟨_, he⟩ hb)]; exact hh) hj
  | arr id ver n v0 z cs v ho hk hv h =>
    refine .arr id ver n v0 z cs v ho hk hv fun e => ?_
    obtain ⟨q1, q2⟩ := h e
    refine ⟨q1, q2.imp (fun h => h) fun ⟨c, cap, vals, T, r1, r2, r3, r4, r5⟩ => ⟨c, cap, vals, T, r1, r2, r3, ?_, r5⟩⟩
    rw [k.heap _ (hne ⟨_, hk⟩ r1)]; exact r4
  | aptr id ver off v0 z cs v ho hk hv h => exact .aptr id ver off v0 z cs v ho hk hv h
theorem Inv.swap {st : St} {σ : Sig} {w w' : World} {b : Nat} (k : Swap st σ w w' b) (h : Inv st σ w) : Inv st σ w' where
  cells := fun id l hl => by
    obtain ⟨c, cs, T, h1, h2, h3, h4, h5⟩ := h.cells id l hl
    exact ⟨c, cs, T, h1, by rw [k.heap _ (by rintro rfl; exact k.own id (lt_of_get hl) h1)]; exact h2, h3, fun j hj => (h4 j hj).swap k, h5⟩
  tok := fun id v c h1 h2 => by rw [k.size]; exact h.tok id v c h1 h2
  inj := h.inj
  fresh := fun c hc => h.fresh c (by rw [← k.size]; exact hc)
  arrs := fun id v z cs hc => (h.arrs id v z cs hc).imp (fun h => h) fun ⟨c, vals, T, h1, h2, h3, h4, h5⟩ => by
    exact ⟨c, vals, T, h1, by rw [k.heap _ (by rintro rfl; exact k.own id (lt_of_get hc) h1)]; exact h2, h3, fun j hj => (h4 j hj).swap k, h5⟩
  maps := fun id l hl => by
    obtain ⟨c, es, cl, h1, h2, h3, h4⟩ := h.maps id l hl
    exact ⟨c, es, cl, h1, by rw [k.heap _ (by rintro rfl; exact k.own id (lt_of_get hl) h1)]; exact h2, ⟨h3.1, fun j hj => ⟨(h3.2.1 j hj).1, ((h3.2.1 j hj).2).swap k⟩, h3.2.2.1, h3.2.2.2⟩, h4⟩
  globs := fun id c v hl => by obtain ⟨h1, h2, h3⟩ := h.globs id c v hl; exact ⟨h1, by rw [k.cell]; exact h2, h3⟩
theorem Ext.swap {st0 st : St} {σ0 σ : Sig} {w0 w w' : World} {b : Nat} (k : Swap st σ w w' b) (hI0 : Inv st0 σ0 w0) (hb : w0.heap.size ≤ b) (h : Ext st0 σ0 w0 st σ w) : Ext st0 σ0 w0 st σ w' where
  os := k.os.trans h.os
  tape := k.tape.trans h.tape
  output := k.output.trans h.output
  size := by rw [k.size]; exact h.size
  lock := fun c o v hl hc => by rw [k.cell]; exact h.lock c o v hl hc
  all := fun c hc hl => by
    obtain ⟨h1, h2⟩ := h.all c hc hl
    exact ⟨h1, by rw [k.heap c (by omega)]; exact h2⟩
  kcells := h.kcells
  ktok := fun id v hv => by
    obtain ⟨v', h1, h2, h3⟩ := h.ktok id v hv
    refine ⟨v', h1, h2, fun e => ?_⟩
    obtain ⟨p1, p2⟩ := h3 e
    refine ⟨p1, fun c hc => ?_⟩
    obtain ⟨q1, q2⟩ := p2 c hc
    have := (hI0.tok id v c hv hc).1
    exact ⟨q1, by rw [k.heap c (by omega)]; exact q2⟩
  karrs := fun id v z cs hv => by
    obtain ⟨v', cs', h1, h2, h3⟩ := h.karrs id v z cs hv
    refine ⟨v', cs', h1, h2, fun e => ?_⟩
    obtain ⟨p1, p2, p3⟩ := h3 e
    refine ⟨p1, p2, fun c vals T fr hc hh => ?_⟩
    obtain ⟨x, q1, q2⟩ := p3 c vals T fr hc hh
    exact ⟨x, by rw [k.heap c (by have := lt_of_some hh; omega)]; exact q1, q2⟩
  kmaps := fun id es hv => by
    obtain ⟨h1, h2, h3⟩ := h.kmaps id es hv
    refine ⟨h1, h2, fun c e cl hc hh => ?_⟩
    obtain ⟨e', c', q1, q2, q3⟩ := h3 c e cl hc hh
    exact ⟨e', c', by rw [k.heap c (by have := lt_of_some hh; omega)]; exact q1, q2, q3⟩
theorem Inv.still_free {st : St} {σ : Sig} {w : World} (h : Inv st σ w) {b : Nat} (hb : (σ.lock b).still = true) : ∀ i, i < st.length → σ.μ i ≠ some b := by
  intro i hi hm
  have : ∃ x, st[i]? = some x := ⟨st[i], by simp [hi]⟩
  obtain ⟨x, hx⟩ := this
  cases x with
  | cells l =>
    obtain ⟨c, cs, T, h1, _, _, _, h5⟩ := h.cells i l hx
    rw [hm] at h1; cases h1
    rw [h5] at hb; cases hb
  | tok v => rw [(h.tok i v b hx hm).2] at hb; cases hb
  | map es =>
    obtain ⟨c, en, k, h1, _, _, h5⟩ := h.maps i es hx
    rw [hm] at h1; cases h1
    rw [h5] at hb; cases hb
  | arr v z cs =>
    rcases h.arrs i v z cs hx with ⟨h1, _⟩ | ⟨c, vals, T, h1, _, _, _, h5⟩
    · rw [hm] at h1; cases h1
    · rw [hm] at h1; cases h1
      rw [h5] at hb; cases hb
  | glob c v => rw [(h.globs i c v hx).1] at hm; cases hm
end Go.AL
set_option linter.unusedVariables false
namespace Go.AL
variable {P : Program}
theorem run_next_at (w : World) (ty : TypeId) (b m since last : Nat) (seen : Array Nat) (es : Array MapEntry) (clock : Nat) (hb : w.heap[b]? = some (.mapIter (some m) since seen last)) (hm : w.heap[m]? = some (.map es clock))
    (hold : ∀ x ∈ es.toList, x.born < since) (htest : (!seen.isEmpty && !es.isEmpty && es.all (fun x => decide (x.born ≥ last))) = false) :
    ((leftOf es seen).size = 0 ∧ (Instr.next (.pointer (some ⟨b, 0, none⟩)) false ty).run P w = .ok (.tuple #[.bool false]) w) ∨
    ∃ e ∈ (leftOf es seen).toList, ∃ d, (Instr.next (.pointer (some ⟨b, 0, none⟩)) false ty).run P w = .ok (.tuple #[.bool true, e.key, e.val]) { w with drawn := d, heap := w.heap.setIfInBounds b (.mapIter (some m) since (seen.push e.born) clock) } := by
  simp only [Instr.next, getObj, Sem.run_bind, Sem.run, hb, hm, Result.andThen, htest, Bool.false_eq_true, if_false]
  unfold leftOf
  have hmem : ∀ x ∈ (Array.filter (fun e => !seen.contains e.born) es).toList, x.born < since := fun x hx => hold x (by simp at hx ⊢; exact hx.1)
  generalize Array.filter (fun e => !seen.contains e.born) es = L at hmem ⊢
  have e1 : L.filter (fun x => decide (x.born < since)) = L := Array.filter_eq_self.2 (fun x hx => by simpa using hmem x (by simpa using hx))
  have e2 : L.filter (fun x => decide (x.born ≥ since)) = #[] := by
    rw [Array.filter_eq_empty_iff]
    intro x hx
    have := hmem x (by simpa using hx)
    simp
    omega
  simp only [e1, e2, Array.append_empty]
  by_cases h0 : L.size = 0
  · left
    have : L = #[] := Array.eq_empty_of_size_eq_zero h0
    subst this
    refine ⟨rfl, ?_⟩
    simp [choose, Sem.run, Question.forced]
  · right
    have hne : L.isEmpty = false := by simp [Array.isEmpty, h0]
    simp only [hne, Bool.false_eq_true, if_false, Array.empty_append, Array.size_map]
    have hch : ∃ (j : Nat) (d : Nat), j < L.size ∧ (choose (Question.mapNext L.size)).run P w = .ok j { w with drawn := d } := by
      by_cases hf : L.size ≤ 1
      · exact ⟨0, w.drawn, by omega, by simp [choose, Sem.run, Question.forced, hf]⟩
      · exact ⟨_, w.drawn + 1, Nat.mod_lt _ (by omega), by
          simp only [choose, Sem.run, Question.forced, decide_eq_true_eq, hf, if_false, Question.cut]
          rfl⟩
    obtain ⟨j, d, hj, hrun⟩ := hch
    refine ⟨L[j], by simp, d, ?_⟩
    have hset : ∀ (o' : Obj), (setObj b o').run P { w with drawn := d } = .ok () { w with drawn := d, heap := w.heap.setIfInBounds b o' } := fun o' => by
      simp only [setObj, Sem.run, hb]
    simp only [hrun, Array.getElem?_map, Array.getElem?_eq_getElem hj, Option.map_some, Sem.run_bind, hset, Result.andThen]
    rfl
theorem run_entry_at (w : World) (b m since : Nat) (seen : Array Nat) (es : Array MapEntry) (clock : Nat) (e : MapEntry) (hb : w.heap[b]? = some (.mapIter (some m) since (seen.push e.born) clock)) (hm : w.heap[m]? = some (.map es clock))
    (he : e ∈ es.toList) (hn : (es.toList.map (·.born)).Nodup) : (Instr.entry (.pointer (some ⟨b, 0, none⟩))).run P w = .ok (.tuple #[e.key, e.val]) w := by
  have hf : es.find? (·.born == e.born) = some e := by rw [← Array.find?_toList]; exact find_born e es.toList hn he
  simp only [Instr.entry, getObj, Sem.run_bind, Sem.run, hb, hm, Result.andThen, Array.back?_push, bne_self_eq_false, Bool.false_eq_true, if_false, hf]
  rfl
structure IterAt (st : St) (σ : Sig) (w : World) (b mid n : Nat) (S : List Nat) : Prop where
  still : (σ.lock b).still = true
  body : ∃ m ents clock since seen last, σ.μ mid = some m ∧ w.heap[m]? = some (.map ents clock) ∧ ents.size = n ∧ w.heap[b]? = some (.mapIter (some m) since seen last) ∧
    seen.toList = S.map (fun j => (ents.getD j default).born) ∧ (∀ j, j < n → (ents.getD j default).born < since) ∧ (n ≠ 0 → S ≠ [] → ∃ j, j < n ∧ (ents.getD j default).born < last)
theorem IterAt.ext {st st' : St} {σ σ' : Sig} {w w' : World} {b mid n : Nat} {S : List Nat} {es es' : List (Value × SV)} (h : IterAt st σ w b mid n S) (hX : Ext st σ w st' σ' w') (hI' : Inv st' σ' w') (hes : st[mid]? = some (.map es)) (hes' : st'[mid]? = some (.map es')) (hn : es'.length = n) :
    IterAt st' σ' w' b mid n S := by
  obtain ⟨h1, m, ents, clock, since, seen, last, q1, q2, q3, q4, q5, q6, q7⟩ := h
  obtain ⟨x1, x2⟩ := hX.all b (lt_of_some q4) h1
  obtain ⟨_, y2, y3⟩ := hX.kmaps mid es hes
  obtain ⟨ents', clock', z1, z2, z3⟩ := y3 m ents clock q1 q2
  obtain ⟨m', ents2, clock2, u1, u2, u3, _⟩ := hI'.maps mid es' hes'
  rw [y2, q1] at u1
  cases u1
  rw [z1] at u2
  cases u2
  have hsz : ents'.size = n := by rw [u3.1, hn]
  have hb : ∀ j, j < n → (ents'.getD j default).born = (ents.getD j default).born := fun j hj => z3 j (by omega)
  refine ⟨by rw [x1]; exact h1, m, ents', clock', since, seen, last, by rw [y2]; exact q1, z1, hsz, by rw [x2]; exact q4, ?_, fun j hj => by rw [hb j hj]; exact q6 j hj, fun hn0 hS => ?_⟩
  · rw [q5]
    apply List.map_congr_left
    intro j hj
    by_cases hjn : j < n
    · rw [hb j hjn]
    · have e1 : ents.getD j default = default := by rw [Array.getD_eq_getD_getElem?, Array.getElem?_eq_none (by omega)]; rfl
      have e2 : ents'.getD j default = default := by rw [Array.getD_eq_getD_getElem?, Array.getElem?_eq_none (by omega)]; rfl
      rw [e1, e2]
  · obtain ⟨j, r1, r2⟩ := q7 hn0 hS
    exact ⟨j, r1, by rw [hb j r1]; exact r2⟩
def IterJ (st : St) (σ : Sig) (w : World) (b mid j : Nat) : Prop := ∃ m ents clock since seen, σ.μ mid = some m ∧ w.heap[m]? = some (.map ents clock) ∧ j < ents.size ∧ w.heap[b]? = some (.mapIter (some m) since (Array.push seen (ents.getD j default).born) clock)
theorem born_nodup {st : St} {σ : Sig} {w : World} {es : List (Value × SV)} {ents : Array MapEntry} {clock : Nat} (h : MapRep st σ w es ents clock) : (ents.toList.map (·.born)).Nodup := by
  rw [List.Nodup, List.pairwise_map, List.pairwise_iff_getElem]
  intro i j hi hj hij hab
  simp only [Array.length_toList] at hi hj
  simp only [Array.getElem_toList] at hab
  have e1 : ents.getD i default = ents[i] := by simp [Array.getD, hi]
  have e2 : ents.getD j default = ents[j] := by simp [Array.getD, hj]
  have := h.2.2.2 i j hi hj (by rw [e1, e2]; exact hab)
  omega
theorem iter_entry {st : St} {σ : Sig} {w : World} {b mid j : Nat} {es : List (Value × SV)} (hI : Inv st σ w) (hes : st[mid]? = some (.map es)) (h : IterJ st σ w b mid j) :
    ∃ v, (Instr.entry (.pointer (some ⟨b, 0, none⟩))).run P w = .ok v w ∧ Rep st σ w (.tuple [.sc (es.getD j (default, .any)).1, (es.getD j (default, .any)).2]) v := by
  obtain ⟨m, ents, clock, since, seen, q1, q2, q3, q4⟩ := h
  obtain ⟨m', ents2, clock2, u1, u2, u3, _⟩ := hI.maps mid es hes
  rw [q1] at u1; cases u1
  rw [q2] at u2; cases u2
  have hmem : ents.getD j default ∈ ents.toList := by simp [Array.getD, q3]
  refine ⟨_, run_entry_at w b m since seen ents clock _ q4 q2 hmem (born_nodup u3), ?_⟩
  obtain ⟨r1, r2⟩ := u3.2.1 j (by rw [← u3.1]; exact q3)
  refine .tuple _ _ rfl fun i hi => ?_
  match i, hi with
  | 0, _ => rw [r1]; exact .sc _
  | 1, _ => exact r2
theorem iter_next {st : St} {σ : Sig} {w : World} {b mid n : Nat} {S : List Nat} {es : List (Value × SV)} (ty : TypeId) (hI : Inv st σ w) (hes : st[mid]? = some (.map es)) (hn : es.length = n) (h : IterAt st σ w b mid n S) (hS : ∀ j ∈ S, j < n) :
    ((∀ j, j < n → j ∈ S) ∧ (Instr.next (.pointer (some ⟨b, 0, none⟩)) false ty).run P w = .ok (.tuple #[.bool false]) w) ∨
    ∃ j, j < n ∧ j ∉ S ∧ ∃ v w', (Instr.next (.pointer (some ⟨b, 0, none⟩)) false ty).run P w = .ok v w' ∧ Rep st σ w' (.tuple [.sc (.bool true), .any, .any]) v ∧ Swap st σ w w' b ∧ IterAt st σ w' b mid n (S ++ [j]) ∧ IterJ st σ w' b mid j := by
  have hstill := h.still
  obtain ⟨_, m, ents, clock, since, seen, last, q1, q2, q3, q4, q5, q6, q7⟩ := h
  obtain ⟨m', ents2, clock2, u1, u2, u3, _⟩ := hI.maps mid es hes
  rw [q1] at u1; cases u1
  rw [q2] at u2; cases u2
  have hold : ∀ x ∈ ents.toList, x.born < since := by
    intro x hx
    obtain ⟨i, hi⟩ := List.getElem?_of_mem hx
    rw [Array.getElem?_toList] at hi
    have hlt := lt_of_some hi
    have := q6 i (by omega)
    rwa [Array.getD_eq_getD_getElem?, hi] at this
  have htest : (!seen.isEmpty && !ents.isEmpty && ents.all (fun x => decide (x.born ≥ last))) = false := by
    cases hse : seen.isEmpty with
    | true => simp
    | false =>
      cases hee : ents.isEmpty with
      | true => simp
      | false =>
        have hS0 : S ≠ [] := by
          rintro rfl
          have : seen = #[] := by apply Array.toList_inj.1; simpa using q5
          subst this
          cases hse
        have hn0 : n ≠ 0 := by
          intro h0
          have : ents = #[] := Array.eq_empty_of_size_eq_zero (by omega)
          subst this
          cases hee
        obtain ⟨j, r1, r2⟩ := q7 hn0 hS0
        have hf : ents.all (fun x => decide (x.born ≥ last)) = false := by
          rw [Bool.eq_false_iff]
          intro hall
          rw [Array.all_eq_true_iff_forall_mem] at hall
          have hm : ents.getD j default ∈ ents := by
            have : ents.getD j default = ents[j]'(by omega) := by simp [Array.getD, show j < ents.size by omega]
            rw [this]; exact Array.getElem_mem _
          have := hall _ hm
          simp only [ge_iff_le, decide_eq_true_eq] at this
          omega
        simp [hf]
  have hbm : b ≠ m := by rintro rfl; rw [q2] at q4; cases q4
  rcases run_next_at (P := P) w ty b m since last seen ents clock q4 q2 hold htest with ⟨h1, h2⟩ | ⟨e, he, d, hrun⟩
  · refine .inl ⟨fun j hj => ?_, h2⟩
    have h3 := all_seen ents seen h1 (ents.getD j default) (by simp [Array.getD, show j < ents.size by omega])
    have h4 : (ents.getD j default).born ∈ seen.toList := by simpa using h3
    rw [q5] at h4
    obtain ⟨i, hi, hb⟩ := List.mem_map.1 h4
    have := u3.2.2.2 i j (by have := hS i hi; omega) (by omega) hb
    rw [← this]; exact hi
  · obtain ⟨he1, he2⟩ := mem_left he
    obtain ⟨j, hj⟩ := List.getElem?_of_mem he1
    rw [Array.getElem?_toList] at hj
    have hjl := lt_of_some hj
    have hje : ents.getD j default = e := by rw [Array.getD_eq_getD_getElem?, hj]; rfl
    have hjS : j ∉ S := by
      intro hjS
      have : (ents.getD j default).born ∈ seen.toList := by rw [q5]; exact List.mem_map.2 ⟨j, hjS, rfl⟩
      rw [hje] at this
      have : seen.contains e.born = true := by simpa using this
      rw [this] at he2; cases he2
    have hblt := lt_of_some q4
    have hsw : Swap st σ w { w with drawn := d, heap := w.heap.setIfInBounds b (.mapIter (some m) since (seen.push e.born) clock) } b := by
      refine ⟨fun a => ?_, fun c hc => by simp [Array.getElem?_setIfInBounds_ne (Ne.symm hc)], by simp, rfl, rfl, rfl, hI.still_free hstill⟩
      unfold World.cell?
      by_cases e : a.block = b
      · rw [e, q4]
        simp [hblt]
      · simp [Array.getElem?_setIfInBounds_ne (Ne.symm e)]
    refine .inr ⟨j, by omega, hjS, _, _, hrun, ?_, hsw, ⟨hstill, m, ents, clock, since, seen.push e.born, clock, q1, ?_, q3, by simp [hblt], ?_, q6, fun hn0 _ => ⟨0, by omega, u3.2.2.1 0 (by omega)⟩⟩, m, ents, clock, since, seen, q1, ?_, hjl, by rw [hje]; simp [hblt]⟩
    · refine .tuple _ _ rfl fun i hi => ?_
      match i, hi with
      | 0, _ => exact .sc _
      | 1, _ => exact .any _
      | 2, _ => exact .any _
    · simp [Array.getElem?_setIfInBounds_ne hbm, q2]
    · rw [Array.toList_push, q5, List.map_append, List.map_cons, List.map_nil, hje]
    · simp [Array.getElem?_setIfInBounds_ne hbm, q2]
end Go.AL
