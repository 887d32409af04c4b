/- The abstract layer, part 9b: regions whose order is drawn, in which some operations turn the objects: these have an order of their own. -/
import Derived.Test.YtjkhpblfgcnpaaaAl9
set_option linter.unusedVariables false
namespace Go.AL
variable {P : Program}

/-- Is j looked for by i, directly or through others? -/
def ancB (ops : Array Oper) : Nat → Nat → Nat → Bool
  | 0, _, _ => false
  | n + 1, i, j => match ops[i]? with
    | some o => o.after.toList.any fun e => Region.binds .any e && (e.on == j || ancB ops n e.on j)
    | none => false

/-- The operations ks come one behind the other. -/
def ordOk (ops : Array Oper) : List Nat → Bool
  | a :: b :: r => ancB ops ops.size b a && decide (a < b) && ordOk ops (b :: r)
  | _ => true

def early (ops : Array Oper) (ks : List Nat) (i : Nat) : Bool := match ks with | e :: _ => ancB ops ops.size e i | [] => true

/-- Does an operation stand by what it makes in whatever state may be reached? -/
def drawE (P : Program) (M : List Nat) (ops : Array Oper) (ks el : List Nat) (R : St → Prop) (s0 : St) : Nat → List Oper → List SV → St → (List SV → St → Prop) → Prop
  | _, [], env, st, K => K env st
  | i, o :: r, env, st, K =>
    if ks.contains i then ∃ X s', effSpec P M o (onlyAt (opTmps o.op.operands.toList) 0 env) st (fun x s => x = X ∧ s = s') ∧ o.guard = none ∧ R s' ∧ drawE P M ops ks el R s0 (i + 1) r (putE env o.dst X) s' K
    else ∃ X, (∀ s, (if el.contains i then s = s0 else R s) → d1Spec P M (ops.toList.map (·.dst)) o env s (fun x => x = X)) ∧ drawE P M ops ks el R s0 (i + 1) r (putE env o.dst X) st K

def EffFact (P : Program) (ops : Array Oper) (s s' : St) (o : Oper) (E : List SV) (X : SV) : Prop :=
  ∀ σ w (a : Act) (env : List SV), Inv s σ w → RepEnv s σ w env a.tmps → (∀ t ∈ looks ops o, env.getD t .any = E.getD t .any) → env.length = E.length →
    o.guard = none ∧ ∃ Q0 : Exit → Act → World → Prop, (∀ e a w, ¬ Q0 e a w) ∧
      o.wp P a w (fun a' w' => ∃ v σ', a' = a.put o.dst v ∧ Inv s' σ' w' ∧ Ext s σ w s' σ' w' ∧ Rep s' σ' w' X v) Q0

theorem chainE {M : List Nat} {ops : Array Oper} {ks el : List Nat} {R : St → Prop} {s0 : St} {K : List SV → St → Prop} : ∀ (n : Nat) (l : List Oper) (env : List SV) (st : St), ops.toList.drop n = l → R st →
    drawE P M ops ks el R s0 n l env st K →
    ∃ (F : Nat → List SV) (G : Nat → St) (X : Nat → SV), F n = env ∧ G n = st ∧ (∀ i, n ≤ i → R (G i)) ∧
      (∀ i o, n ≤ i → ops[i]? = some o → F (i + 1) = putE (F i) o.dst (X i) ∧
        (if ks.contains i then EffFact P ops (G i) (G (i + 1)) o (F i) (X i) else G (i + 1) = G i ∧ ∀ s, (if el.contains i then s = s0 else R s) → OpFact P ops s o (F i) (X i))) ∧
      K (F (n + l.length)) (G (n + l.length))
  | n, [], env, st, hl, hr, h => by
    refine ⟨fun _ => env, fun _ => st, fun _ => .any, rfl, rfl, fun _ _ => hr, fun i o hi ho => ?_, h⟩
    have h1 := lt_of_some ho
    have h2 := congrArg List.length hl
    simp at h2
    omega
  | n, o :: r, env, st, hl, hrs, h => by
    have ho : ops[n]? = some o := by
      have : (ops.toList.drop n)[0]? = some o := by rw [hl]; rfl
      rw [List.getElem?_drop, Nat.add_zero, Array.getElem?_toList] at this
      exact this
    have hr : ops.toList.drop (n + 1) = r := by rw [← List.drop_drop, hl]; rfl
    have fin : ∀ (X0 : SV) (s' : St), R s' → drawE P M ops ks el R s0 (n + 1) r (putE env o.dst X0) s' K →
        (if ks.contains n then EffFact P ops st s' o env X0 else s' = st ∧ ∀ s, (if el.contains n then s = s0 else R s) → OpFact P ops s o env X0) →
        ∃ (F : Nat → List SV) (G : Nat → St) (X : Nat → SV), F n = env ∧ G n = st ∧ (∀ i, n ≤ i → R (G i)) ∧
          (∀ i o, n ≤ i → ops[i]? = some o → F (i + 1) = putE (F i) o.dst (X i) ∧
            (if ks.contains i then EffFact P ops (G i) (G (i + 1)) o (F i) (X i) else G (i + 1) = G i ∧ ∀ s, (if el.contains i then s = s0 else R s) → OpFact P ops s o (F i) (X i))) ∧
          K (F (n + (o :: r).length)) (G (n + (o :: r).length)) := by
      intro X0 s' hrs' hrest hfact
      obtain ⟨F, G, X, f1, f2, f3, f4, f5⟩ := chainE (n + 1) r _ _ hr hrs' hrest
      refine ⟨fun i => if i = n then env else F i, fun i => if i = n then st else G i, fun i => if i = n then X0 else X i, by simp, by simp, fun i hi => ?_, fun i p hi hp => ?_, ?_⟩
      · by_cases e : i = n
        · simp only [if_pos e]; exact hrs
        · simp only [if_neg e]; exact f3 i (by omega)
      · by_cases e : i = n
        · subst e
          rw [ho] at hp; cases hp
          simp only [if_true, show ¬ i + 1 = i by omega, if_false]
          refine ⟨f1, ?_⟩
          rw [f2]
          exact hfact
        · simp only [if_neg e, show ¬ i + 1 = n by omega, if_false]
          exact f4 i p (by omega) hp
      · simp only [List.length_cons]
        rw [if_neg (by omega), if_neg (by omega), show n + (r.length + 1) = n + 1 + r.length by omega]
        exact f5
    simp only [drawE] at h
    by_cases hk : ks.contains n = true
    · rw [if_pos hk] at h
      obtain ⟨X0, s', h1, h2, h3, h4⟩ := h
      refine fin X0 s' h3 h4 ?_
      rw [if_pos hk]
      intro σ w a env' hI hR hs hlen
      refine ⟨h2, fun _ _ _ => False, fun _ _ _ h => h, ?_⟩
      refine upon_mono ?_ (fun _ _ _ h => h) (aop_eff h1 σ w a hI (rep_only hR hs hlen))
      rintro a' w' ⟨v, x, s1, σ', rfl, ⟨rfl, rfl⟩, hI', hr', hX⟩
      exact ⟨v, σ', rfl, hI', hX, hr'⟩
    · rw [if_neg hk] at h
      obtain ⟨X0, h1, h2⟩ := h
      refine fin X0 st hrs h2 ?_
      rw [if_neg hk]
      refine ⟨rfl, fun s hs => ?_⟩
      obtain ⟨X1, g1, rfl⟩ := fact_of (h1 s hs)
      exact g1


theorem anc_listed {ops : Array Oper} {listed : Array Bool} (hcl : ∀ i, listed.getD i false = true → ∀ p, ops[i]? = some p → ∀ e, e ∈ p.after.toList → Region.binds .any e = true → listed.getD e.on false = true) :
    ∀ (n i j : Nat), (∀ p, ops[i]? = some p → ∀ e, e ∈ p.after.toList → Region.binds .any e = true → listed.getD e.on false = true) → ancB ops n i j = true → listed.getD j false = true
  | 0, i, j, _, h => by cases h
  | n + 1, i, j, hi, h => by
    simp only [ancB] at h
    split at h
    · rename_i o ho
      rw [List.any_eq_true] at h
      obtain ⟨e, he1, he2⟩ := h
      simp only [Bool.and_eq_true, Bool.or_eq_true, beq_iff_eq] at he2
      have hl := hi o ho e he1 he2.1
      rcases he2.2 with rfl | h2
      · exact hl
      · exact anc_listed hcl n e.on j (hcl e.on hl) h2
    · cases h

theorem ord_tail {ops : Array Oper} {a : Nat} {r : List Nat} (h : ordOk ops (a :: r) = true) : ordOk ops r = true := by
  cases r with
  | nil => rfl
  | cons b r => simp only [ordOk, Bool.and_eq_true] at h; exact h.2

theorem ord_lt {ops : Array Oper} : ∀ {r : List Nat} {a : Nat}, ordOk ops (a :: r) = true → ∀ k ∈ r, a < k
  | [], a, _, k, hk => by cases hk
  | b :: r, a, h, k, hk => by
    simp only [ordOk, Bool.and_eq_true, decide_eq_true_eq] at h
    cases hk with
    | head => exact h.1.2
    | tail _ hk => exact Nat.lt_trans h.1.2 (ord_lt h.2 k hk)

/-- Whoever of ks is listed has those ahead of it listed. -/
theorem ord_prefix {ops : Array Oper} {listed : Array Bool} (hcl : ∀ i, listed.getD i false = true → ∀ p, ops[i]? = some p → ∀ e, e ∈ p.after.toList → Region.binds .any e = true → listed.getD e.on false = true) :
    ∀ {r : List Nat} {a : Nat}, ordOk ops (a :: r) = true → ∀ k ∈ r, listed.getD k false = true → listed.getD a false = true
  | [], a, _, k, hk, _ => by cases hk
  | b :: r, a, h, k, hk, hl => by
    have h' := h
    simp only [ordOk, Bool.and_eq_true] at h
    have hb : listed.getD b false = true := by
      cases hk with
      | head => exact hl
      | tail _ hk => exact ord_prefix hcl h.2 k hk hl
    exact anc_listed hcl _ b a (hcl b hb) h.1.1

def nxt (ks : List Nat) (listed : Array Bool) (n : Nat) : Nat := (ks.find? fun e => !listed.getD e false).getD n

theorem nxt_eff {ops : Array Oper} {listed : Array Bool} (n : Nat) (hcl : ∀ i, listed.getD i false = true → ∀ p, ops[i]? = some p → ∀ e, e ∈ p.after.toList → Region.binds .any e = true → listed.getD e.on false = true)
    {i : Nat} (hi : ∀ p, ops[i]? = some p → ∀ e, e ∈ p.after.toList → Region.binds .any e = true → listed.getD e.on false = true) (hnl : listed.getD i false = false) :
    ∀ {ks : List Nat}, ordOk ops ks = true → i ∈ ks → nxt ks listed n = i
  | [], _, h => by cases h
  | a :: r, ho, h => by
    by_cases e : a = i
    · subst e; simp only [nxt, List.find?_cons, hnl, Bool.not_false]; rfl
    · have hr : i ∈ r := by
        cases h with
        | head => exact absurd rfl e
        | tail _ h => exact h
      have ih := nxt_eff n hcl hi hnl (ord_tail ho) hr
      have ha : listed.getD a false = true := by
        cases r with
        | nil => cases hr
        | cons b r =>
          have ho' := ho
          simp only [ordOk, Bool.and_eq_true] at ho
          by_cases eb : b = i
          · subst eb; exact anc_listed hcl _ b a hi ho.1.1
          · have hb : listed.getD b false = true := by
              cases hv : listed.getD b false with
              | true => rfl
              | false =>
                exfalso
                simp only [nxt, List.find?_cons, hv, Bool.not_false] at ih
                exact eb ih
            exact anc_listed hcl _ b a (hcl b hb) ho.1.1
      simp only [nxt, List.find?_cons, ha, Bool.not_true] at ih ⊢
      exact ih

theorem nxt_none {listed : Array Bool} {n : Nat} {ks : List Nat} (h : ∀ k ∈ ks, listed.getD k false = true) : nxt ks listed n = n := by
  unfold nxt
  rw [List.find?_eq_none.2 (fun k hk => by simp only [h k hk]; decide)]; rfl

/-- Between what is next and what is ahead of it there is no one that is not listed; what is next is of ks, or the end. -/
theorem nxt_spec {ops : Array Oper} {listed : Array Bool} {n : Nat} : ∀ {ks : List Nat}, ordOk ops ks = true → (∀ k ∈ ks, k < n) → nxt ks listed n ≤ n ∧ (∀ k ∈ ks, k < nxt ks listed n → listed.getD k false = true) ∧
    (nxt ks listed n = n ∨ (nxt ks listed n ∈ ks ∧ listed.getD (nxt ks listed n) false = false))
  | [], _, _ => ⟨Nat.le_of_eq rfl, fun k hk _ => (by cases hk), .inl rfl⟩
  | a :: r, ho, hn => by
    cases hv : listed.getD a false with
    | false =>
      have e : nxt (a :: r) listed n = a := by simp only [nxt, List.find?_cons, hv, Bool.not_false]; rfl
      rw [e]
      refine ⟨Nat.le_of_lt (hn a (by simp)), fun k hk hlt => ?_, .inr ⟨by simp, hv⟩⟩
      cases hk with
      | head => omega
      | tail _ hk => have := ord_lt ho k hk; omega
    | true =>
      have e : nxt (a :: r) listed n = nxt r listed n := by simp only [nxt, List.find?_cons, hv, Bool.not_true]
      rw [e]
      obtain ⟨h1, h2, h3⟩ := nxt_spec (listed := listed) (ord_tail ho) (fun k hk => hn k (by simp [hk]))
      refine ⟨h1, fun k hk hlt => ?_, h3.imp id fun h => ⟨by simp [h.1], h.2⟩⟩
      cases hk with
      | head => exact hv
      | tail _ hk => exact h2 k hk hlt

theorem awp_drawE (M : List Nat) (ks el : List Nat) (R : St → Prop) {id : Nat} {ops : Array Oper} {Q : Exit → List SV → St → Prop} {env : List SV} {st : St} (hm : P.follows .mixedOrders = true) (hf : flowOk ops = true)
    (hks : ordOk ops ks = true) (hkn : ks.all (· < ops.size) = true) (hel : el.all (early ops ks) = true) (hRst : R st) (h : drawE P M ops ks el R st 0 ops.toList env st fun e s => Q .normal e s) : AWp P (.region id ops true) Q env st := by
  intro σ w a hI hR hd
  obtain ⟨F, G, X, f1, gg1, gR, f2', f3⟩ := chainE 0 ops.toList env st rfl hRst h
  simp only [Nat.zero_add, Array.length_toList] at f3
  have f2 : ∀ i o, 0 ≤ i → ops[i]? = some o → True ∧ F (i + 1) = putE (F i) o.dst (X i) := fun i o hi ho => ⟨trivial, (f2' i o hi ho).1⟩
  have hkn' : ∀ k ∈ ks, k < ops.size := by
    intro k hk
    rw [List.all_eq_true] at hkn
    simpa using hkn k hk
  have gconst : ∀ d a, a + d ≤ ops.size → (∀ k ∈ ks, ¬ (a ≤ k ∧ k < a + d)) → G (a + d) = G a := by
    intro d
    induction d with
    | zero => intro a _ _; rfl
    | succ d ih =>
      intro a ha hno
      have h1 := ih a (by omega) (fun k hk hc => hno k hk (by omega))
      have hp : ops[a + d]? = some ops[a + d] := by simp [show a + d < ops.size by omega]
      have h2 := (f2' (a + d) _ (Nat.zero_le _) hp).2
      rw [if_neg (by
        intro hc
        exact hno (a + d) (by simpa using hc) (by omega))] at h2
      rw [show a + (d + 1) = a + d + 1 by omega, h2.1, h1]
  have gsame : ∀ a b, a ≤ b → b ≤ ops.size → (∀ k ∈ ks, ¬ (a ≤ k ∧ k < b)) → G b = G a := by
    intro a b hab hb hno
    obtain ⟨d, rfl⟩ := Nat.exists_eq_add_of_le hab
    exact gconst d a hb hno
  -- what flowOk says
  have hflow : ∀ i j p q, ops[i]? = some p → ops[j]? = some q → i ≠ j → ∀ t, q.dst = some t → (t ∈ looks ops p → if j < i then dirEdge p j = true else dirEdge q i = true) ∧ p.dst ≠ some t := by
    intro i j p q hp hq hne t ht
    have h1 := lt_of_some hp
    have h2 := lt_of_some hq
    unfold flowOk at hf
    rw [List.all_eq_true] at hf
    have h3 := hf i (by simpa using h1)
    simp only [Bool.and_eq_true, List.all_eq_true] at h3
    have h4 := h3.1 j (by simpa using h2)
    unfold flowAt at h4
    rw [hp, hq] at h4
    simp only [ht, Bool.or_eq_true, beq_iff_eq, Bool.and_eq_true, Bool.not_eq_true', bne_iff_ne, ne_eq] at h4
    rcases h4 with h4 | ⟨h4, h5⟩
    · exact absurd h4 hne
    · refine ⟨fun hlk => ?_, h5⟩
      rcases h4 with h4 | h4
      · simp [hlk] at h4
      · split <;> rename_i hji <;> simpa [hji] using h4
  have hback : ∀ i p, ops[i]? = some p → ∀ e, e ∈ p.after.toList → Region.binds .any e = true → e.on < i := by
    intro i p hp e he hb
    have h1 := lt_of_some hp
    unfold flowOk at hf
    rw [List.all_eq_true] at hf
    have h3 := hf i (by simpa using h1)
    simp only [Bool.and_eq_true, hp, Option.map_some, Option.getD_some, List.all_eq_true] at h3
    have h4 := h3.2 e he
    simpa [hb] using h4
  have flen : ∀ i, i ≤ ops.size → (F i).length = env.length := by
    intro i
    induction i with
    | zero => intro _; rw [f1]
    | succ i ih =>
      intro hi
      have hp : ops[i]? = some ops[i] := by simp [show i < ops.size by omega]
      rw [(f2 i _ (Nat.zero_le _) hp).2, length_putE, ih (by omega)]
  -- slots of the frames in the text's order
  have fget : ∀ i, i ≤ ops.size → ∀ t, t < env.length → (∀ j, j < i → writes ops j t = true → (F i).getD t .any = X j) ∧ ((∀ j, j < i → writes ops j t = false) → (F i).getD t .any = env.getD t .any) := by
    intro i
    induction i with
    | zero => intro _ t ht; exact ⟨fun j hj => absurd hj (Nat.not_lt_zero _), fun _ => by rw [f1]⟩
    | succ i ih =>
      intro hi t ht
      obtain ⟨ih1, ih2⟩ := ih (by omega) t ht
      have hp : ops[i]? = some ops[i] := by simp [show i < ops.size by omega]
      have he := (f2 i _ (Nat.zero_le _) hp).2
      have hg : (F (i + 1)).getD t .any = if ops[i].dst = some t then X i else (F i).getD t .any := by rw [he]; exact putE_get (by rw [flen i (by omega)]; exact ht)
      have hwi : writes ops i t = true ↔ ops[i].dst = some t := by simp [writes, hp]
      refine ⟨fun j hj hw => ?_, fun hno => ?_⟩
      · rw [hg]
        by_cases c : ops[i].dst = some t
        · rw [if_pos c]
          by_cases e : j = i
          · rw [e]
          · have hjl : j < ops.size := by omega
            have hq : ops[j]? = some ops[j] := by simp [hjl]
            have hjd : ops[j].dst = some t := by simpa [writes, hq] using hw
            exact absurd c (hflow i j _ _ hp hq (by omega) t hjd).2
        · rw [if_neg c]
          have e : j ≠ i := by rintro rfl; exact c (hwi.1 hw)
          exact ih1 j (by omega) hw
      · rw [hg, if_neg (fun c => by have := hno i (by omega); rw [hwi.2 c] at this; cases this)]
        exact ih2 fun j hj => hno j (by omega)
  let Inv' : Array Bool → Act → World → Prop := fun listed a' w' => ∃ σ', Inv (G (nxt ks listed ops.size)) σ' w' ∧ Ext st σ w (G (nxt ks listed ops.size)) σ' w' ∧ a'.defers = [] ∧ listed.size = ops.size ∧
    RepEnv (G (nxt ks listed ops.size)) σ' w' (mixE ops listed env (F ops.size)) a'.tmps ∧ ∀ i, listed.getD i false = true → ∀ p, ops[i]? = some p → ∀ e, e ∈ p.after.toList → Region.binds .any e = true → listed.getD e.on false = true
  have key : ∀ (fuel : Nat) (listed : Array Bool) (a' : Act) (w' : World), ((List.range ops.size).filter fun j => !listed.getD j false).length = fuel → Inv' listed a' w' →
      wpAny P .any ops (fun e a' w' => Post (Q e) st σ w a' w') fuel listed a' w' := by
    intro fuel
    induction fuel with
    | zero =>
      intro listed a' w' hc hI'
      obtain ⟨σ', i1, i2, i3, i4, i5, i6⟩ := hI'
      have hall : ∀ j, j < ops.size → listed.getD j false = true := by
        intro j hj
        have h0 : (List.range ops.size).filter (fun j => !listed.getD j false) = [] := List.eq_nil_of_length_eq_zero hc
        rw [List.filter_eq_nil_iff] at h0
        simpa using h0 j (by simpa using hj)
      have hnx : nxt ks listed ops.size = ops.size := nxt_none fun k hk => hall k (hkn' k hk)
      rw [hnx] at i1 i2 i5
      refine ⟨?_, i3, mixE ops listed env (F ops.size), G ops.size, σ', ?_, i1, i5, i2⟩
      · unfold Region.ready
        rw [List.filter_eq_nil_iff]
        intro j hj
        have hj' : j < ops.size := by simpa using hj
        have h1 := hall j hj'
        have : listed.getD j true = true := by
          rw [Array.getD_eq_getD_getElem?] at h1 ⊢
          rw [Array.getElem?_eq_getElem (by omega)] at h1 ⊢
          exact h1
        simp [this]
      · have e : mixE ops listed env (F ops.size) = F ops.size := by
          apply List.ext_getElem?
          intro t
          by_cases ht : t < env.length
          · have h1 := getD_mixE (ops := ops) (listed := listed) (eN := F ops.size) ht
            have hl1 : t < (mixE ops listed env (F ops.size)).length := by rw [length_mixE]; exact ht
            have hl2 : t < (F ops.size).length := by rw [flen _ (Nat.le_refl _)]; exact ht
            rw [List.getElem?_eq_getElem hl1, List.getElem?_eq_getElem hl2]
            simp only [List.getD_eq_getElem?_getD, List.getElem?_eq_getElem hl1, List.getElem?_eq_getElem hl2, Option.getD_some] at h1
            rw [h1]
            split
            · rfl
            · rename_i hno
              have h2 := (fget ops.size (Nat.le_refl _) t ht).2 (fun j hj => by
                cases hw : writes ops j t with
                | false => rfl
                | true =>
                  exfalso
                  apply hno
                  unfold wr
                  rw [List.any_eq_true]
                  exact ⟨j, by simpa using hj, by rw [hall j hj, hw]; rfl⟩)
              simp only [List.getD_eq_getElem?_getD, List.getElem?_eq_getElem hl2, Option.getD_some] at h2
              rw [h2]
          · rw [List.getElem?_eq_none (by rw [length_mixE]; omega), List.getElem?_eq_none (by rw [flen _ (Nat.le_refl _)]; omega)]
        rw [e]
        exact f3
    | succ fuel ih =>
      intro listed a' w' hc hI'
      obtain ⟨σ', i1, i2, i3, i4, i5, i6⟩ := hI'
      have hready : ∀ i, i ∈ Region.ready .any ops listed ↔ i < ops.size ∧ listed.getD i true = false ∧ ∀ p, ops[i]? = some p → ∀ e, e ∈ p.after.toList → Region.binds .any e = true → listed.getD e.on false = true := by
        intro i
        unfold Region.ready
        rw [List.mem_filter]
        constructor
        · rintro ⟨h1, h2⟩
          have h1' : i < ops.size := by simpa using h1
          simp only [Bool.and_eq_true, Bool.not_eq_true'] at h2
          refine ⟨h1', h2.1, fun p hp e he hb => ?_⟩
          have h3 := h2.2
          rw [hp] at h3
          simp only [Option.map_some, Option.getD_some, Array.all_eq_true'] at h3
          have := h3 e (by simpa using he)
          simpa [hb] using this
        · rintro ⟨h1, h2, h3⟩
          refine ⟨by simpa using h1, ?_⟩
          have hp : ops[i]? = some ops[i] := by simp [h1]
          simp only [h2, hp, Option.map_some, Option.getD_some, Bool.not_false, Bool.true_and, Array.all_eq_true']
          intro e he
          cases hb : Region.binds .any e with
          | false => rfl
          | true => simpa using h3 _ hp e (by simpa using he) hb
      refine ⟨fun hnil => ?_, fun i hi => ?_⟩
      · -- the least one that is not listed is ready
        exfalso
        have hex : ∃ j, j < ops.size ∧ listed.getD j false = false := by
          have hne : (List.range ops.size).filter (fun j => !listed.getD j false) ≠ [] := by intro h0; rw [h0] at hc; cases hc
          obtain ⟨j, hj⟩ := List.exists_mem_of_ne_nil _ hne
          rw [List.mem_filter] at hj
          exact ⟨j, by simpa using hj.1, by simpa using hj.2⟩
        obtain ⟨j, hj1, hj2⟩ := hex
        have least : ∀ n, ∀ j, j ≤ n → j < ops.size → listed.getD j false = false → ∃ i, i < ops.size ∧ listed.getD i false = false ∧ ∀ k, k < i → listed.getD k false = true := by
          intro n
          induction n with
          | zero =>
            intro j hj h1 h2
            exact ⟨j, h1, h2, fun k hk => by omega⟩
          | succ n ihn =>
            intro j hj h1 h2
            by_cases c : ∃ k, k < j ∧ listed.getD k false = false
            · obtain ⟨k, hk1, hk2⟩ := c
              exact ihn k (by omega) (by omega) hk2
            · refine ⟨j, h1, h2, fun k hk => ?_⟩
              cases hv : listed.getD k false with
              | true => rfl
              | false => exact absurd ⟨k, hk, hv⟩ c
        obtain ⟨i, hi1, hi2, hi3⟩ := least j j (Nat.le_refl _) hj1 hj2
        have : i ∈ Region.ready .any ops listed := (hready i).2 ⟨hi1, by
          rw [Array.getD_eq_getD_getElem?] at hi2 ⊢
          rw [Array.getElem?_eq_getElem (by omega)] at hi2 ⊢
          exact hi2, fun p hp e he hb => hi3 _ (hback i p hp e he hb)⟩
        rw [hnil] at this
        cases this
      · obtain ⟨hi1, hi2, hi3⟩ := (hready i).1 hi
        have hp : ops[i]? = some ops[i] := by simp [hi1]
        have hnl : listed.getD i false = false := by
          rw [Array.getD_eq_getD_getElem?] at hi2 ⊢
          rw [Array.getElem?_eq_getElem (by omega)] at hi2 ⊢
          exact hi2
        obtain ⟨hnext, hfact⟩ := f2' i _ (Nat.zero_le _) hp
        -- the frame agrees with the text's where the operation looks
        have hagree : ∀ t ∈ looks ops ops[i], (mixE ops listed env (F ops.size)).getD t .any = (F i).getD t .any := by
          intro t ht
          by_cases hlt : t < env.length
          · rw [getD_mixE hlt]
            obtain ⟨g1, g2⟩ := fget i (by omega) t hlt
            obtain ⟨gN1, gN2⟩ := fget ops.size (Nat.le_refl _) t hlt
            by_cases c : ∃ j, j < i ∧ writes ops j t = true
            · obtain ⟨j, hj, hw⟩ := c
              have hjl : j < ops.size := by omega
              have hq : ops[j]? = some ops[j] := by simp [hjl]
              have hjd : ops[j].dst = some t := by simpa [writes, hq] using hw
              have hedge := (hflow i j _ _ hp hq (by omega) t hjd).1 ht
              rw [if_pos hj] at hedge
              have hlj : listed.getD j false = true := by
                unfold dirEdge at hedge
                rw [List.any_eq_true] at hedge
                obtain ⟨e, he1, he2⟩ := hedge
                simp only [Bool.and_eq_true, beq_iff_eq] at he2
                have := hi3 _ hp e he1 he2.1
                rwa [he2.2] at this
              rw [if_pos (by unfold wr; rw [List.any_eq_true]; exact ⟨j, by simpa using hjl, by rw [hlj, hw]; rfl⟩), g1 j hj hw, gN1 j hjl hw]
            · rw [g2 fun j hj => by
                cases hw : writes ops j t with
                | false => rfl
                | true => exact absurd ⟨j, hj, hw⟩ c]
              rw [if_neg]
              intro hwr
              unfold wr at hwr
              rw [List.any_eq_true] at hwr
              obtain ⟨j, hj1, hj2⟩ := hwr
              simp only [Bool.and_eq_true] at hj2
              have hjl : j < ops.size := by simpa using hj1
              have hq : ops[j]? = some ops[j] := by simp [hjl]
              have hjd : ops[j].dst = some t := by simpa [writes, hq] using hj2.2
              have hne : i ≠ j := by rintro rfl; rw [hj2.1] at hnl; cases hnl
              have hnji : ¬ j < i := fun hji => c ⟨j, hji, hj2.2⟩
              have hedge := (hflow i j _ _ hp hq hne t hjd).1 ht
              rw [if_neg hnji] at hedge
              unfold dirEdge at hedge
              rw [List.any_eq_true] at hedge
              obtain ⟨e, he1, he2⟩ := hedge
              simp only [Bool.and_eq_true, beq_iff_eq] at he2
              have := i6 j hj2.1 _ hq e he1 he2.1
              rw [he2.2, hnl] at this
              cases this
          · rw [List.getD_eq_getElem?_getD, List.getD_eq_getElem?_getD, List.getElem?_eq_none (by rw [length_mixE]; omega), List.getElem?_eq_none (by rw [flen i (by omega)]; omega)]
        have hns := nxt_spec (listed := listed) hks hkn'
        -- what stands behind it
        have hdone : ∀ (v : Value) (σ2 : Sig) (w2 : World) (s2 : St), s2 = G (nxt ks (listed.setIfInBounds i true) ops.size) → Inv s2 σ2 w2 → Ext (G (nxt ks listed ops.size)) σ' w' s2 σ2 w2 → Rep s2 σ2 w2 (X i) v →
            Inv' (listed.setIfInBounds i true) (a'.put ops[i].dst v) w2 := by
          intro v σ2 w2 s2 es2 hI2 hX2 hr2
          subst es2
          have gl : ∀ k, (listed.setIfInBounds i true).getD k false = if k = i then true else listed.getD k false := by
            intro k
            rw [Array.getD_eq_getD_getElem?, Array.getD_eq_getD_getElem?]
            by_cases e : i = k
            · subst e; simp [show i < listed.size by omega]
            · rw [Array.getElem?_setIfInBounds_ne e, if_neg (fun h => e h.symm)]
          have hRE := i5.ext hX2
          refine ⟨σ2, hI2, i2.trans hX2, by rw [put_defers]; exact i3, by simpa using i4, ⟨?_, fun t ht => ?_⟩, fun k hk p hp' e he hb => ?_⟩
          · rw [length_mixE]
            have := hRE.1
            rw [length_mixE] at this
            cases ops[i].dst with
            | none => exact this
            | some d => simpa [Act.put] using this
          · rw [length_mixE] at ht
            have hput := rep_put hRE ops[i].dst hr2
            have h1 := hput.2 t (by rw [length_putE, length_mixE]; exact ht)
            rw [putE_get (by rw [length_mixE]; exact ht)] at h1
            have e : (mixE ops (listed.setIfInBounds i true) env (F ops.size)).getD t .any = if ops[i].dst = some t then X i else (mixE ops listed env (F ops.size)).getD t .any := by
              rw [getD_mixE ht, getD_mixE ht]
              obtain ⟨gN1, gN2⟩ := fget ops.size (Nat.le_refl _) t ht
              by_cases c : ops[i].dst = some t
              · rw [if_pos c, if_pos]
                · exact gN1 i hi1 (by simp [writes, hp, c])
                · unfold wr
                  rw [List.any_eq_true]
                  exact ⟨i, by simpa using hi1, by rw [gl, if_pos rfl]; simp [writes, hp, c]⟩
              · rw [if_neg c]
                have e2 : wr ops (listed.setIfInBounds i true) t = wr ops listed t := by
                  unfold wr
                  apply Bool.eq_iff_iff.2
                  rw [List.any_eq_true, List.any_eq_true]
                  constructor
                  · rintro ⟨j, hj1, hj2⟩
                    simp only [Bool.and_eq_true] at hj2
                    refine ⟨j, hj1, ?_⟩
                    rw [gl] at hj2
                    by_cases ej : j = i
                    · subst ej; exact absurd (by simpa [writes, hp] using hj2.2) c
                    · rw [if_neg ej] at hj2; simp [hj2.1, hj2.2]
                  · rintro ⟨j, hj1, hj2⟩
                    simp only [Bool.and_eq_true] at hj2
                    refine ⟨j, hj1, ?_⟩
                    rw [gl]
                    split <;> simp [hj2.1, hj2.2]
                rw [e2]
            rw [e]
            exact h1
          · rw [gl] at hk ⊢
            split
            · rfl
            · by_cases ek : k = i
              · subst ek
                rw [hp] at hp'; cases hp'
                exact hi3 _ hp e he hb
              · rw [if_neg ek] at hk
                exact i6 k hk p hp' e he hb
        have hcount : ((List.range ops.size).filter fun j => !(listed.setIfInBounds i true).getD j false).length = fuel := by
          have h1 : ((List.range ops.size).filter fun j => !listed.getD j false) = (List.range ops.size).filter fun j => !listed.getD j false := rfl
          have hperm : ∀ l : List Nat, l.Nodup → i ∈ l → (l.filter fun j => !listed.getD j false).length = (l.filter fun j => !(listed.setIfInBounds i true).getD j false).length + 1 := by
            intro l
            have gl : ∀ k, (listed.setIfInBounds i true).getD k false = if k = i then true else listed.getD k false := by
              intro k
              rw [Array.getD_eq_getD_getElem?, Array.getD_eq_getD_getElem?]
              by_cases e : i = k
              · subst e; simp [show i < listed.size by omega]
              · rw [Array.getElem?_setIfInBounds_ne e, if_neg (fun h => e h.symm)]
            induction l with
            | nil => intro _ h; cases h
            | cons x r ihr =>
              intro hnd hmem
              rw [List.nodup_cons] at hnd
              by_cases e : x = i
              · subst e
                have hrest : (r.filter fun j => !listed.getD j false) = r.filter fun j => !(listed.setIfInBounds x true).getD j false := by
                  apply List.filter_congr
                  intro j hj
                  rw [gl, if_neg (by rintro rfl; exact hnd.1 hj)]
                rw [List.filter_cons, List.filter_cons, if_pos (by rw [hnl]; rfl), if_neg (by rw [gl, if_pos rfl]; decide), hrest]
                simp
              · have hm : i ∈ r := by
                  cases hmem with
                  | head => exact absurd rfl e
                  | tail _ h => exact h
                have := ihr hnd.2 hm
                simp only [List.filter_cons, gl x, if_neg e]
                split <;> simp only [List.length_cons, this]
          have := hperm _ List.nodup_range (by simpa using hi1)
          omega
        have gl : ∀ k, (listed.setIfInBounds i true).getD k false = if k = i then true else listed.getD k false := by
          intro k
          rw [Array.getD_eq_getD_getElem?, Array.getD_eq_getD_getElem?]
          by_cases e : i = k
          · subst e; simp [show i < listed.size by omega]
          · rw [Array.getElem?_setIfInBounds_ne e, if_neg (fun h => e h.symm)]
        have hlook := hagree
        unfold wpOp
        rw [hp]
        simp only
        by_cases hk : ks.contains i = true
        · -- one that turns the objects
          have hki : i ∈ ks := by simpa using hk
          rw [if_pos hk] at hfact
          have hnx : nxt ks listed ops.size = i := nxt_eff ops.size i6 hi3 hnl hks hki
          have hnx2 : G (nxt ks (listed.setIfInBounds i true) ops.size) = G (i + 1) := by
            have hns2 := nxt_spec (listed := listed.setIfInBounds i true) hks hkn'
            have hge : i + 1 ≤ nxt ks (listed.setIfInBounds i true) ops.size := by
              rcases hns2.2.2 with h | ⟨h1, h2⟩
              · omega
              · rw [gl] at h2
                by_cases e : nxt ks (listed.setIfInBounds i true) ops.size = i
                · rw [if_pos e] at h2; cases h2
                · rw [if_neg e] at h2
                  rcases Nat.lt_or_ge (nxt ks (listed.setIfInBounds i true) ops.size) i with hlt | hge
                  · have := hns.2.1 _ h1 (by omega)
                    rw [h2] at this; cases this
                  · omega
            refine gsame _ _ hge hns2.1 fun k hkk hc => ?_
            have h1 := hns2.2.1 k hkk hc.2
            rw [gl, if_neg (by omega)] at h1
            have : ∀ {l : List Nat}, ordOk ops l = true → i ∈ l → k ∈ l → listed.getD i false = true := by
              intro l
              induction l with
              | nil => intro _ h; cases h
              | cons a r ihl =>
                intro ho hi' hk'
                by_cases ea : a = i
                · subst ea
                  have hkr : k ∈ r := by
                    cases hk' with
                    | head => omega
                    | tail _ h => exact h
                  exact ord_prefix i6 ho k hkr h1
                · have hir : i ∈ r := by
                    cases hi' with
                    | head => exact absurd rfl ea
                    | tail _ h => exact h
                  by_cases ek : a = k
                  · subst ek
                    have := ord_lt ho i hir
                    omega
                  · have hkr : k ∈ r := by
                      cases hk' with
                      | head => exact absurd rfl ek
                      | tail _ h => exact h
                    exact ihl (ord_tail ho) hir hkr
            have hcon := this hks hki hkk
            rw [hnl] at hcon; cases hcon
          rw [hnx] at i1 i2 i5 hdone
          obtain ⟨hgn, Q0, hq0, hwp⟩ := hfact σ' w' a' _ i1 i5 hlook (by rw [length_mixE, flen i (by omega)])
          have hwt : Region.wanted ops[i] (yielded ops a'.tmps) = true := by simp [Region.wanted, hgn]
          simp only [hwt, if_true]
          refine .inl (upon_mono ?_ (fun e a w h => absurd h (hq0 e a w)) hwp)
          rintro a2 w2 ⟨v, σ2, rfl, hI2, hX2, hr2⟩
          exact ih _ _ _ hcount (hdone v σ2 w2 _ hnx2.symm hI2 hX2 hr2)
        · rw [if_neg hk] at hfact
          have hki : i ∉ ks := by simpa using hk
          have hnx : nxt ks (listed.setIfInBounds i true) ops.size = nxt ks listed ops.size := by
            unfold nxt
            have : ∀ l : List Nat, i ∉ l → (l.find? fun e => !(listed.setIfInBounds i true).getD e false) = l.find? fun e => !listed.getD e false := by
              intro l
              induction l with
              | nil => intro _; rfl
              | cons a r ihl =>
                intro hni
                have h1 : a ≠ i := fun e => hni (by simp [e])
                rw [List.find?_cons, List.find?_cons, gl, if_neg h1, ihl (fun h => hni (by simp [h]))]
            rw [this ks hki]
          have hst : (if el.contains i then G (nxt ks listed ops.size) = st else R (G (nxt ks listed ops.size))) := by
            split
            · rename_i he0
              have he : early ops ks i = true := by
                rw [List.all_eq_true] at hel
                exact hel i (by simpa using he0)
              unfold early at he
              split at he
              · rename_i e0 r
                have hnl0 : listed.getD e0 false = false := by
                  cases hv : listed.getD e0 false with
                  | false => rfl
                  | true =>
                    have := anc_listed i6 _ e0 i (i6 e0 hv) he
                    rw [hnl] at this; cases this
                have e1 : nxt (e0 :: r) listed ops.size = e0 := by simp only [nxt, List.find?_cons, hnl0, Bool.not_false]; rfl
                rw [e1, ← gg1]
                refine gsame 0 e0 (Nat.zero_le _) (Nat.le_of_lt (hkn' e0 (by simp))) fun k hk' hc => ?_
                cases hk' with
                | head => omega
                | tail _ h => have := ord_lt hks k h; omega
              · have e1 : nxt [] listed ops.size = ops.size := by simp [nxt]
                rw [e1, ← gg1]
                exact gsame 0 ops.size (Nat.zero_le _) (Nat.le_refl _) fun k hk' => by cases hk'
            · exact gR _ (Nat.zero_le _)
          obtain ⟨hrun, hskip⟩ := hfact.2 _ hst σ' w' a' _ i1 i5 hlook (by rw [length_mixE, flen i (by omega)])
          cases hwt : Region.wanted ops[i] (yielded ops a'.tmps) with
          | true =>
            simp only [if_true]
            obtain ⟨Q0, hq0, hwp⟩ := hrun hwt
            refine .inl (upon_mono ?_ (fun e a w h => absurd h (hq0 e a w)) hwp)
            rintro a2 w2 ⟨v, σ2, rfl, hI2, hX2, hr2⟩
            exact ih _ _ _ hcount (hdone v σ2 w2 _ (by rw [hnx]) hI2 hX2 hr2)
          | false =>
            simp only [Bool.false_eq_true, if_false]
            exact ih _ _ _ hcount (hdone undef σ' w' _ (by rw [hnx]) i1 (Ext.refl _ _ _) (hskip hwt))
  have hd0 : Ext st σ w st σ { w with drawn := w.drawn + 1 } := Ext.drew _
  have hg0 : G (nxt ks (Array.replicate ops.size false) ops.size) = st := by
    cases hk : ks with
    | nil =>
      have e1 : nxt [] (Array.replicate ops.size false) ops.size = ops.size := by simp [nxt]
      rw [e1, ← gg1]
      exact gsame 0 ops.size (Nat.zero_le _) (Nat.le_refl _) fun k hk' => by rw [hk] at hk'; cases hk'
    | cons e0 r =>
      have e1 : nxt (e0 :: r) (Array.replicate ops.size false) ops.size = e0 := by
        have : (Array.replicate ops.size false).getD e0 false = false := by simp [Array.getD]
        simp only [nxt, List.find?_cons, this, Bool.not_false]; rfl
      rw [e1, ← gg1]
      refine gsame 0 e0 (Nat.zero_le _) (Nat.le_of_lt (hkn' e0 (by rw [hk]; simp))) fun k hk' hc => ?_
      rw [hk] at hk' hks
      cases hk' with
      | head => omega
      | tail _ h => have := ord_lt hks k h; omega
  refine wp_region_any hm (key ops.size _ a _ ?_ ⟨σ, by rw [hg0]; exact hI.drew _, by rw [hg0]; exact hd0, hd, by simp, ?_, fun i hi => ?_⟩)
  · have : ((List.range ops.size).filter fun j => !(Array.replicate ops.size false).getD j false) = List.range ops.size := by
      apply List.filter_eq_self.2
      intro j hj
      simp [Array.getD]
    rw [this]; simp
  · have e : mixE ops (Array.replicate ops.size false) env (F ops.size) = env := by
      apply List.ext_getElem?
      intro t
      by_cases ht : t < env.length
      · have hw : wr ops (Array.replicate ops.size false) t = false := by
          unfold wr
          rw [List.any_eq_false]
          intro j hj
          simp [Array.getD]
        simp [mixE, hw, ht]
      · rw [List.getElem?_eq_none (by rw [length_mixE]; omega), List.getElem?_eq_none (by omega)]
    rw [e, hg0]
    exact hR.ext hd0
  · simp [Array.getD] at hi


end Go.AL
