/- The abstract layer, part 9: regions whose order is drawn: whatever the order, the same comes of them. -/
import Derived.Test.YtjkhpblfgcnpaaaAl8
set_option linter.unusedVariables false
namespace Go.AL
variable {P : Program}

/-- Of a frame only some slots. -/
def onlyAt (s : List Nat) : Nat → List SV → List SV
  | _, [] => []
  | k, x :: r => (if s.contains k then x else .any) :: onlyAt s (k + 1) r

theorem length_onlyAt (s : List Nat) : ∀ (k : Nat) (l : List SV), (onlyAt s k l).length = l.length
  | _, [] => rfl
  | k, x :: r => by simp [onlyAt, length_onlyAt s (k + 1) r]

theorem getD_onlyAt (s : List Nat) : ∀ (k : Nat) (l : List SV) (i : Nat), i < l.length → (onlyAt s k l).getD i .any = if s.contains (k + i) then l.getD i .any else .any
  | k, x :: r, 0, h => rfl
  | k, x :: r, i + 1, h => by
    have := getD_onlyAt s (k + 1) r i (by simpa using h)
    simp only [onlyAt, List.getD_cons_succ, this, show k + 1 + i = k + (i + 1) by omega]

/-- What an operation of such a region makes: forgotten but for its value. -/
def Kept (st : St) (X : SV) : SV → St → Prop := fun x s => (∃ ex, s = st ++ ex) ∧ Ids st.length X ∧ (X = x ∨ X = norm x)

def dkSpec (P : Program) (M : List Nat) (o : Oper) (env : List SV) (st : St) (next : SV → Prop) : Kd → Prop
  | .pure => okCore P st (ev env) o.op ∧ next (valCore P st (ev env) o.op)
  | .pick c x y => pickOk (ev env c) (ev env x) (ev env y) ∧ next (pickV (ev env c) (ev env x) (ev env y))
  | .eff => ∃ X, effSpec P M o (onlyAt (opTmps o.op.operands.toList) 0 env) st (Kept st X) ∧ next X

def dgSpec (P : Program) (M : List Nat) (o : Oper) (env : List SV) (st : St) (g : Bool) (next : SV → Prop) : Kd → Prop
  | .pure => gAll (g = true) env o.op.operands.toList ∧ (g = true → okCore P st (fun y => strip (ev env y)) o.op) ∧ next (.gd g (valCore P st (fun y => strip (ev env y)) o.op))
  | .pick c x y => gIf (g = true) (ev env c) ∧ (g = true → pickOk (strip (ev env c)) (ev env x) (ev env y)) ∧ next (.gd g (pickV (strip (ev env c)) (ev env x) (ev env y)))
  | .eff => gAll (g = true) env o.op.operands.toList ∧ ∃ X, (g = true → effSpec P M o (stripAt (opTmps o.op.operands.toList) 0 (onlyAt (opTmps o.op.operands.toList) 0 env)) st (Kept st X)) ∧ next (.gd g X)

/-- One operation, in the text's order. -/
def d1Spec (P : Program) (M : List Nat) (ds : List (Option Tmp)) (o : Oper) (env : List SV) (st : St) (next : SV → Prop) : Prop :=
  match o.guard with
  | none => dkSpec P M o env st next (kindOf o.op)
  | some (j, want) => gValOk (gSlot ds j env) ∧ dgSpec P M o env st (gVal want (gSlot ds j env)) next (kindOf o.op)

def drawSpec (P : Program) (M : List Nat) (ds : List (Option Tmp)) : List Oper → List SV → St → (List SV → Prop) → Prop
  | [], env, st, K => K env
  | o :: r, env, st, K => d1Spec P M ds o env st fun x => drawSpec P M ds r (putE env o.dst x) st K

def looks (ops : Array Oper) (o : Oper) : List Nat := opTmps o.op.operands.toList ++ (match o.guard with | some (j, _) => ((ops[j]?).bind (·.dst)).toList | none => [])

def dirEdge (o : Oper) (j : Nat) : Bool := o.after.toList.any fun e => Region.binds .any e && e.on == j

def flowAt (ops : Array Oper) (i j : Nat) : Bool :=
  match ops[i]?, ops[j]? with
  | some a, some b =>
    (i == j) || ((match b.dst with
      | some t => (!(looks ops a).contains t || (if j < i then dirEdge a j else dirEdge b i)) && a.dst != some t
      | none => true))
  | _, _ => true

def flowOk (ops : Array Oper) : Bool :=
  (List.range ops.size).all fun i => (List.range ops.size).all (flowAt ops i) && ((ops[i]?).map fun o => o.after.toList.all fun e => !Region.binds .any e || decide (e.on < i)).getD true

/-- What one operation comes to, whatever else the frame holds. -/
def OpFact (P : Program) (ops : Array Oper) (st : St) (o : Oper) (E : List SV) (X : SV) : Prop :=
  ∀ σ w (a : Act) (env : List SV), Inv st σ w → RepEnv st σ w env a.tmps → (∀ t ∈ looks ops o, env.getD t .any = E.getD t .any) → env.length = E.length →
    (Region.wanted o (yielded ops a.tmps) = true → ∃ Q0 : Exit → Act → World → Prop, (∀ e a w, ¬ Q0 e a w) ∧
      o.wp P a w (fun a' w' => ∃ v σ', a' = a.put o.dst v ∧ Inv st σ' w' ∧ Ext st σ w st σ' w' ∧ Rep st σ' w' X v) Q0) ∧
    (Region.wanted o (yielded ops a.tmps) = false → Rep st σ w X undef)

theorem kept_wp {o : Oper} {E env : List SV} {st : St} {X : SV} (h : AOp P o (Kept st X) E st) {σ : Sig} {w : World} {a : Act} (hI : Inv st σ w) (hR : RepEnv st σ w E a.tmps) :
    o.wp P a w (fun a' w' => ∃ v σ', a' = a.put o.dst v ∧ Inv st σ' w' ∧ Ext st σ w st σ' w' ∧ Rep st σ' w' X v) (fun _ _ _ => False) := by
  refine upon_mono ?_ (fun _ _ _ h => h) (h σ w a hI hR)
  rintro a' w' ⟨v, x, s, σ', rfl, ⟨⟨ex, rfl⟩, hids, hx⟩, hI', hr, hX⟩
  have hrX : Rep (st ++ ex) σ' w' X v := by rcases hx with rfl | rfl; exact hr; exact hr.norm
  refine ⟨v, σ', rfl, hI'.drop fun id l hl j hj => ?_, hX.drop (Nat.le_refl _), hrX.drop hids⟩
  obtain ⟨b, cs, T, _, _, _, h4, _⟩ := hI.cells id l hl
  exact (h4 j hj).ids

theorem mem_looks {ops : Array Oper} {o : Oper} {t : Nat} (h : t ∈ opTmps o.op.operands.toList) : t ∈ looks ops o := List.mem_append_left _ h

theorem opTmps_mem {t : Nat} : ∀ {l : List Operand}, Operand.tmp t ∈ l → t ∈ opTmps l
  | .tmp d :: r, h => by
    simp only [opTmps, List.mem_cons] at h ⊢
    rcases h with h | h
    · left; cases h; rfl
    · right; exact opTmps_mem h
  | .const v :: r, h => by
    simp only [opTmps]
    cases h with
    | tail _ h => exact opTmps_mem h
  | .global v :: r, h => by
    simp only [opTmps]
    cases h with
    | tail _ h => exact opTmps_mem h
  | .func v :: r, h => by
    simp only [opTmps]
    cases h with
    | tail _ h => exact opTmps_mem h

theorem ev_same {ops : Array Oper} {o : Oper} {env E : List SV} (h : ∀ t ∈ looks ops o, env.getD t .any = E.getD t .any) {y : Operand} (hy : y ∈ o.op.operands) : ev env y = ev E y := by
  cases y with
  | tmp t => exact h t (mem_looks (opTmps_mem (by simpa using hy)))
  | _ => rfl

theorem rep_only {ops : Array Oper} {o : Oper} {st : St} {σ : Sig} {w : World} {t : Array Value} {env E : List SV} (hR : RepEnv st σ w env t) (h : ∀ i ∈ looks ops o, env.getD i .any = E.getD i .any)
    (hl : env.length = E.length) : RepEnv st σ w (onlyAt (opTmps o.op.operands.toList) 0 E) t := by
  refine ⟨by rw [length_onlyAt, ← hl]; exact hR.1, fun i hi => ?_⟩
  rw [length_onlyAt] at hi
  rw [getD_onlyAt _ _ _ _ hi, Nat.zero_add]
  split
  · rename_i hc
    rw [← h i (mem_looks (by simpa using hc))]
    exact hR.2 i (by omega)
  · exact .any _

theorem gAll_same {ops : Array Oper} {o : Oper} {env E : List SV} (h : ∀ t ∈ looks ops o, env.getD t .any = E.getD t .any) {p : Prop} : ∀ (l : List Operand), (∀ y ∈ l, y ∈ o.op.operands) → gAll p E l → gAll p env l
  | [], _, _ => trivial
  | y :: r, hm, hg => ⟨by rw [ev_same h (hm y (by simp))]; exact hg.1, gAll_same h r (fun z hz => hm z (by simp [hz])) hg.2⟩

theorem gAll_only {p : Prop} {E : List SV} (s : List Nat) : ∀ (l : List Operand), (∀ t, Operand.tmp t ∈ l → t ∈ s) → gAll p E l → gAll p (onlyAt s 0 E) l
  | [], _, _ => trivial
  | y :: r, hm, hg => by
    refine ⟨?_, gAll_only s r (fun t ht => hm t (by simp [ht])) hg.2⟩
    cases y with
    | tmp t =>
      simp only [ev]
      by_cases hl : t < E.length
      · rw [getD_onlyAt _ _ _ _ hl, Nat.zero_add, if_pos (by simpa using hm t (by simp))]; exact hg.1
      · rw [List.getD_eq_getElem?_getD, List.getElem?_eq_none (show (onlyAt s 0 E).length ≤ t by rw [length_onlyAt]; exact Nat.not_lt.1 hl)]; trivial
    | _ => exact hg.1

theorem fact_of {M : List Nat} {ops : Array Oper} {o : Oper} {E : List SV} {st : St} {next : SV → Prop} (h : d1Spec P M (ops.toList.map (·.dst)) o E st next) :
    ∃ X, OpFact P ops st o E X ∧ next X := by
  unfold d1Spec at h
  split at h
  · rename_i hg
    have hw : ∀ t, Region.wanted o (yielded ops t) = true := fun t => by simp [Region.wanted, hg]
    cases hk : kindOf o.op with
    | pure =>
      rw [hk] at h
      refine ⟨_, fun σ w a env hI hR hs hl => ⟨fun _ => ⟨fun _ _ _ => False, fun _ _ _ h => h, ?_⟩, fun hf => by rw [hw] at hf; cases hf⟩, h.2⟩
      obtain ⟨v, hrun, hrep⟩ := pure_of hk h.1 σ w a hI (fun y hy => by rw [← ev_same hs hy]; exact rep_ev hR y)
      unfold Oper.wp
      rw [hrun]
      exact ⟨v, σ, rfl, hI, Ext.refl _ _ _, hrep⟩
    | pick c x y =>
      rw [hk] at h
      refine ⟨_, fun σ w a env hI hR hs hl => ⟨fun _ => ⟨fun _ _ _ => False, fun _ _ _ h => h, ?_⟩, fun hf => by rw [hw] at hf; cases hf⟩, h.2⟩
      obtain ⟨v, hrun, hrep⟩ := ap_pick' (P := P) (ρ := ev E) (st := st) (kindOf_pick hk) h.1 σ w a hI (fun y hy => by rw [← ev_same hs hy]; exact rep_ev hR y)
      unfold Oper.wp
      rw [hrun]
      exact ⟨v, σ, rfl, hI, Ext.refl _ _ _, hrep⟩
    | eff =>
      rw [hk] at h
      obtain ⟨X, h1, h2⟩ := h
      exact ⟨X, fun σ w a env hI hR hs hl => ⟨fun _ => ⟨fun _ _ _ => False, fun _ _ _ h => h, kept_wp (env := env) (aop_eff h1) hI (rep_only hR hs hl)⟩, fun hf => by rw [hw] at hf; cases hf⟩, h2⟩
  · rename_i j want hg
    obtain ⟨h1, h⟩ := h
    obtain ⟨d, hd, he⟩ := gSlot_some h1
    have hlook : d ∈ looks ops o := by
      unfold looks
      rw [hg]
      exact List.mem_append_right _ (by simp [hd])
    have hw : ∀ {σ : Sig} {w : World} {a : Act} {env : List SV}, RepEnv st σ w env a.tmps → (∀ t ∈ looks ops o, env.getD t .any = E.getD t .any) →
        Region.wanted o (yielded ops a.tmps) = gVal want (gSlot (ops.toList.map (·.dst)) j E) := by
      intro σ w a env hR hs
      rw [he] at h1 ⊢
      rw [← hs d hlook] at h1 ⊢
      simp only [Region.wanted, hg]
      exact yield_gVal hd h1 hR
    generalize gVal want (gSlot (ops.toList.map (·.dst)) j E) = g at h hw
    have skipc : ∀ X : SV, g = false → ∀ {σ : Sig} {w : World}, Rep st σ w (.gd g X) undef := fun X e σ w => .gd g X _ (fun e' => by rw [e] at e'; cases e') (fun _ => rfl)
    cases hk : kindOf o.op with
    | pure =>
      rw [hk] at h
      obtain ⟨g1, g2, g3⟩ := h
      refine ⟨_, fun σ w a env hI hR hs hl => ⟨fun hwt => ⟨fun _ _ _ => False, fun _ _ _ h => h, ?_⟩, fun hf => skipc _ ((hw hR hs).symm.trans hf)⟩, g3⟩
      have hgt : g = true := (hw hR hs).symm.trans hwt
      obtain ⟨v, hrun, hrep⟩ := pure_of hk (g2 hgt) σ w a hI (fun y hy => by
        have := rep_strip (rep_ev hR y) (gAll_mem _ (gAll_same hs _ (fun z hz => by simpa using hz) g1) y (by simpa using hy)) hgt
        rwa [ev_same hs hy] at this)
      unfold Oper.wp
      rw [hrun]
      exact ⟨v, σ, rfl, hI, Ext.refl _ _ _, .gd g _ v (fun _ => hrep) (fun e => by rw [hgt] at e; cases e)⟩
    | pick c x y =>
      rw [hk] at h
      obtain ⟨g1, g2, g3⟩ := h
      have hop := kindOf_pick hk
      refine ⟨_, fun σ w a env hI hR hs hl => ⟨fun hwt => ⟨fun _ _ _ => False, fun _ _ _ h => h, ?_⟩, fun hf => skipc _ ((hw hR hs).symm.trans hf)⟩, g3⟩
      have hgt : g = true := (hw hR hs).symm.trans hwt
      have ec := ev_same hs (y := c) (by simp [hop, Op.operands])
      have ex := ev_same hs (y := x) (by simp [hop, Op.operands])
      have ey := ev_same hs (y := y) (by simp [hop, Op.operands])
      obtain ⟨v, hrun, hrep⟩ : ∃ v, (execOp a.eval o).run P w = .ok (.value v) w ∧ Rep st σ w (pickV (strip (ev E c)) (ev E x) (ev E y)) v := by
        have rc := rep_strip (rep_ev hR c) (by rw [ec]; exact g1) hgt
        rw [ec] at rc
        have h := g2 hgt
        unfold pickOk at h
        split at h
        · rename_i t hc
          rw [hc] at rc
          have e := rep_sc rc
          refine ⟨if t then a.eval x else a.eval y, by cases t <;> simp [execOp, hop, e, asBool], ?_⟩
          rw [hc]
          refine rep_pickB ?_
          cases t
          · have ry := rep_ev hR y
            rw [ey] at ry
            exact rep_strip ry h.2 rfl
          · have rx := rep_ev hR x
            rw [ex] at rx
            exact rep_strip rx h.1 rfl
        · exact h.elim
      unfold Oper.wp
      rw [hrun]
      exact ⟨v, σ, rfl, hI, Ext.refl _ _ _, .gd g _ v (fun _ => hrep) (fun e => by rw [hgt] at e; cases e)⟩
    | eff =>
      rw [hk] at h
      obtain ⟨g1, X, g2, g3⟩ := h
      refine ⟨_, fun σ w a env hI hR hs hl => ⟨fun hwt => ⟨fun _ _ _ => False, fun _ _ _ h => h, ?_⟩, fun hf => skipc _ ((hw hR hs).symm.trans hf)⟩, g3⟩
      have hgt : g = true := (hw hR hs).symm.trans hwt
      have hRo := rep_only hR hs hl
      have hRs := rep_stripAt hgt hRo (gAll_only _ _ (fun t ht => opTmps_mem ht) g1)
      refine upon_mono ?_ (fun _ _ _ h => h) (kept_wp (env := env) (aop_eff (g2 hgt)) hI hRs)
      rintro a' w' ⟨v, σ', rfl, hI', hX, hr⟩
      exact ⟨v, σ', rfl, hI', hX, .gd g _ v (fun _ => hr) (fun e => by rw [hgt] at e; cases e)⟩


theorem chain_of {M : List Nat} {ops : Array Oper} {st : St} {K : List SV → Prop} : ∀ (n : Nat) (l : List Oper) (env : List SV), ops.toList.drop n = l → drawSpec P M (ops.toList.map (·.dst)) l env st K →
    ∃ (F : Nat → List SV) (X : Nat → SV), F n = env ∧ (∀ i o, n ≤ i → ops[i]? = some o → OpFact P ops st o (F i) (X i) ∧ F (i + 1) = putE (F i) o.dst (X i)) ∧ K (F (n + l.length))
  | n, [], env, hl, h => by
    refine ⟨fun _ => env, fun _ => .any, rfl, fun i o hi ho => ?_, h⟩
    have h1 := lt_of_some ho
    have h2 := congrArg List.length hl
    simp at h2
    omega
  | n, o :: r, env, hl, h => by
    have ho : ops[n]? = some o := by
      have : (ops.toList.drop n)[0]? = some o := by rw [hl]; rfl
      rw [List.getElem?_drop, Nat.add_zero, Array.getElem?_toList] at this
      exact this
    have hr : ops.toList.drop (n + 1) = r := by rw [← List.drop_drop, hl]; rfl
    obtain ⟨x, h1, h2⟩ := fact_of h
    obtain ⟨F, X, f1, f2, f3⟩ := chain_of (n + 1) r _ hr h2
    refine ⟨fun i => if i = n then env else F i, fun i => if i = n then x else X i, by simp, fun i p hi hp => ?_, ?_⟩
    · by_cases e : i = n
      · subst e
        rw [ho] at hp; cases hp
        simp only [if_true, show ¬ i + 1 = i by omega, if_false]
        exact ⟨h1, f1⟩
      · simp only [if_neg e, show ¬ i + 1 = n by omega, if_false]
        exact f2 i p (by omega) hp
    · simp only [List.length_cons]
      rw [if_neg (by omega), show n + (r.length + 1) = n + 1 + r.length by omega]
      exact f3

def writes (ops : Array Oper) (j t : Nat) : Bool := ((ops[j]?).bind (·.dst)) == some t
def wr (ops : Array Oper) (listed : Array Bool) (t : Nat) : Bool := (List.range ops.size).any fun j => listed.getD j false && writes ops j t
def mixE (ops : Array Oper) (listed : Array Bool) (e0 eN : List SV) : List SV := (List.range e0.length).map fun t => if wr ops listed t then eN.getD t .any else e0.getD t .any

theorem length_mixE {ops : Array Oper} {listed : Array Bool} {e0 eN : List SV} : (mixE ops listed e0 eN).length = e0.length := by simp [mixE]

theorem getD_mixE {ops : Array Oper} {listed : Array Bool} {e0 eN : List SV} {t : Nat} (ht : t < e0.length) :
    (mixE ops listed e0 eN).getD t .any = if wr ops listed t then eN.getD t .any else e0.getD t .any := by
  simp [mixE, List.getD_eq_getElem?_getD, ht]

theorem putE_get {env : List SV} {d : Option Tmp} {x : SV} {t : Nat} (ht : t < env.length) : (putE env d x).getD t .any = if d = some t then x else env.getD t .any := by
  cases d with
  | none => simp [putE]
  | some d =>
    simp only [putE, Option.some.injEq]
    by_cases e : d = t
    · subst e; simp [List.getD_eq_getElem?_getD, ht]
    · simp [List.getD_eq_getElem?_getD, List.getElem?_set_ne e, e]

theorem length_putE {env : List SV} {d : Option Tmp} {x : SV} : (putE env d x).length = env.length := by cases d <;> simp [putE]

theorem awp_draw (M : List Nat) {id : Nat} {ops : Array Oper} {Q : Exit → List SV → St → Prop} {env : List SV} {st : St} (hm : P.follows .mixedOrders = true) (hf : flowOk ops = true)
    (h : drawSpec P M (ops.toList.map (·.dst)) ops.toList env st fun e => Q .normal e st) : AWp P (.region id ops true) Q env st := by
  intro σ w a hI hR hd
  obtain ⟨F, X, f1, f2, f3⟩ := chain_of 0 ops.toList env rfl h
  simp only [Nat.zero_add, Array.length_toList] at f3
  -- what flowOk says
  have hflow : ∀ i j p q, ops[i]? = some p → ops[j]? = some q → i ≠ j → ∀ t, q.dst = some t → (t ∈ looks ops p → if j < i then dirEdge p j = true else dirEdge q i = true) ∧ p.dst ≠ some t := by
    intro i j p q hp hq hne t ht
    have h1 := lt_of_some hp
    have h2 := lt_of_some hq
    unfold flowOk at hf
    rw [List.all_eq_true] at hf
    have h3 := hf i (by simpa using h1)
    simp only [Bool.and_eq_true, List.all_eq_true] at h3
    have h4 := h3.1 j (by simpa using h2)
    unfold flowAt at h4
    rw [hp, hq] at h4
    simp only [ht, Bool.or_eq_true, beq_iff_eq, Bool.and_eq_true, Bool.not_eq_true', bne_iff_ne, ne_eq] at h4
    rcases h4 with h4 | ⟨h4, h5⟩
    · exact absurd h4 hne
    · refine ⟨fun hlk => ?_, h5⟩
      rcases h4 with h4 | h4
      · simp [hlk] at h4
      · split <;> rename_i hji <;> simpa [hji] using h4
  have hback : ∀ i p, ops[i]? = some p → ∀ e, e ∈ p.after.toList → Region.binds .any e = true → e.on < i := by
    intro i p hp e he hb
    have h1 := lt_of_some hp
    unfold flowOk at hf
    rw [List.all_eq_true] at hf
    have h3 := hf i (by simpa using h1)
    simp only [Bool.and_eq_true, hp, Option.map_some, Option.getD_some, List.all_eq_true] at h3
    have h4 := h3.2 e he
    simpa [hb] using h4
  have flen : ∀ i, i ≤ ops.size → (F i).length = env.length := by
    intro i
    induction i with
    | zero => intro _; rw [f1]
    | succ i ih =>
      intro hi
      have hp : ops[i]? = some ops[i] := by simp [show i < ops.size by omega]
      rw [(f2 i _ (Nat.zero_le _) hp).2, length_putE, ih (by omega)]
  -- slots of the frames in the text's order
  have fget : ∀ i, i ≤ ops.size → ∀ t, t < env.length → (∀ j, j < i → writes ops j t = true → (F i).getD t .any = X j) ∧ ((∀ j, j < i → writes ops j t = false) → (F i).getD t .any = env.getD t .any) := by
    intro i
    induction i with
    | zero => intro _ t ht; exact ⟨fun j hj => absurd hj (Nat.not_lt_zero _), fun _ => by rw [f1]⟩
    | succ i ih =>
      intro hi t ht
      obtain ⟨ih1, ih2⟩ := ih (by omega) t ht
      have hp : ops[i]? = some ops[i] := by simp [show i < ops.size by omega]
      have he := (f2 i _ (Nat.zero_le _) hp).2
      have hg : (F (i + 1)).getD t .any = if ops[i].dst = some t then X i else (F i).getD t .any := by rw [he]; exact putE_get (by rw [flen i (by omega)]; exact ht)
      have hwi : writes ops i t = true ↔ ops[i].dst = some t := by simp [writes, hp]
      refine ⟨fun j hj hw => ?_, fun hno => ?_⟩
      · rw [hg]
        by_cases c : ops[i].dst = some t
        · rw [if_pos c]
          by_cases e : j = i
          · rw [e]
          · have hjl : j < ops.size := by omega
            have hq : ops[j]? = some ops[j] := by simp [hjl]
            have hjd : ops[j].dst = some t := by simpa [writes, hq] using hw
            exact absurd c (hflow i j _ _ hp hq (by omega) t hjd).2
        · rw [if_neg c]
          have e : j ≠ i := by rintro rfl; exact c (hwi.1 hw)
          exact ih1 j (by omega) hw
      · rw [hg, if_neg (fun c => by have := hno i (by omega); rw [hwi.2 c] at this; cases this)]
        exact ih2 fun j hj => hno j (by omega)
  let Inv' : Array Bool → Act → World → Prop := fun listed a' w' => ∃ σ', Inv st σ' w' ∧ Ext st σ w st σ' w' ∧ a'.defers = [] ∧ listed.size = ops.size ∧
    RepEnv st σ' w' (mixE ops listed env (F ops.size)) a'.tmps ∧ ∀ i, listed.getD i false = true → ∀ p, ops[i]? = some p → ∀ e, e ∈ p.after.toList → Region.binds .any e = true → listed.getD e.on false = true
  have key : ∀ (fuel : Nat) (listed : Array Bool) (a' : Act) (w' : World), ((List.range ops.size).filter fun j => !listed.getD j false).length = fuel → Inv' listed a' w' →
      wpAny P .any ops (fun e a' w' => Post (Q e) st σ w a' w') fuel listed a' w' := by
    intro fuel
    induction fuel with
    | zero =>
      intro listed a' w' hc hI'
      obtain ⟨σ', i1, i2, i3, i4, i5, i6⟩ := hI'
      have hall : ∀ j, j < ops.size → listed.getD j false = true := by
        intro j hj
        have h0 : (List.range ops.size).filter (fun j => !listed.getD j false) = [] := List.eq_nil_of_length_eq_zero hc
        rw [List.filter_eq_nil_iff] at h0
        simpa using h0 j (by simpa using hj)
      refine ⟨?_, i3, mixE ops listed env (F ops.size), st, σ', ?_, i1, i5, i2⟩
      · unfold Region.ready
        rw [List.filter_eq_nil_iff]
        intro j hj
        have hj' : j < ops.size := by simpa using hj
        have h1 := hall j hj'
        have : listed.getD j true = true := by
          rw [Array.getD_eq_getD_getElem?] at h1 ⊢
          rw [Array.getElem?_eq_getElem (by omega)] at h1 ⊢
          exact h1
        simp [this]
      · have e : mixE ops listed env (F ops.size) = F ops.size := by
          apply List.ext_getElem?
          intro t
          by_cases ht : t < env.length
          · have h1 := getD_mixE (ops := ops) (listed := listed) (eN := F ops.size) ht
            have hl1 : t < (mixE ops listed env (F ops.size)).length := by rw [length_mixE]; exact ht
            have hl2 : t < (F ops.size).length := by rw [flen _ (Nat.le_refl _)]; exact ht
            rw [List.getElem?_eq_getElem hl1, List.getElem?_eq_getElem hl2]
            simp only [List.getD_eq_getElem?_getD, List.getElem?_eq_getElem hl1, List.getElem?_eq_getElem hl2, Option.getD_some] at h1
            rw [h1]
            split
            · rfl
            · rename_i hno
              have h2 := (fget ops.size (Nat.le_refl _) t ht).2 (fun j hj => by
                cases hw : writes ops j t with
                | false => rfl
                | true =>
                  exfalso
                  apply hno
                  unfold wr
                  rw [List.any_eq_true]
                  exact ⟨j, by simpa using hj, by rw [hall j hj, hw]; rfl⟩)
              simp only [List.getD_eq_getElem?_getD, List.getElem?_eq_getElem hl2, Option.getD_some] at h2
              rw [h2]
          · rw [List.getElem?_eq_none (by rw [length_mixE]; omega), List.getElem?_eq_none (by rw [flen _ (Nat.le_refl _)]; omega)]
        rw [e]
        exact f3
    | succ fuel ih =>
      intro listed a' w' hc hI'
      obtain ⟨σ', i1, i2, i3, i4, i5, i6⟩ := hI'
      have hready : ∀ i, i ∈ Region.ready .any ops listed ↔ i < ops.size ∧ listed.getD i true = false ∧ ∀ p, ops[i]? = some p → ∀ e, e ∈ p.after.toList → Region.binds .any e = true → listed.getD e.on false = true := by
        intro i
        unfold Region.ready
        rw [List.mem_filter]
        constructor
        · rintro ⟨h1, h2⟩
          have h1' : i < ops.size := by simpa using h1
          simp only [Bool.and_eq_true, Bool.not_eq_true'] at h2
          refine ⟨h1', h2.1, fun p hp e he hb => ?_⟩
          have h3 := h2.2
          rw [hp] at h3
          simp only [Option.map_some, Option.getD_some, Array.all_eq_true'] at h3
          have := h3 e (by simpa using he)
          simpa [hb] using this
        · rintro ⟨h1, h2, h3⟩
          refine ⟨by simpa using h1, ?_⟩
          have hp : ops[i]? = some ops[i] := by simp [h1]
          simp only [h2, hp, Option.map_some, Option.getD_some, Bool.not_false, Bool.true_and, Array.all_eq_true']
          intro e he
          cases hb : Region.binds .any e with
          | false => rfl
          | true => simpa using h3 _ hp e (by simpa using he) hb
      refine ⟨fun hnil => ?_, fun i hi => ?_⟩
      · -- the least one that is not listed is ready
        exfalso
        have hex : ∃ j, j < ops.size ∧ listed.getD j false = false := by
          have hne : (List.range ops.size).filter (fun j => !listed.getD j false) ≠ [] := by intro h0; rw [h0] at hc; cases hc
          obtain ⟨j, hj⟩ := List.exists_mem_of_ne_nil _ hne
          rw [List.mem_filter] at hj
          exact ⟨j, by simpa using hj.1, by simpa using hj.2⟩
        obtain ⟨j, hj1, hj2⟩ := hex
        have least : ∀ n, ∀ j, j ≤ n → j < ops.size → listed.getD j false = false → ∃ i, i < ops.size ∧ listed.getD i false = false ∧ ∀ k, k < i → listed.getD k false = true := by
          intro n
          induction n with
          | zero =>
            intro j hj h1 h2
            exact ⟨j, h1, h2, fun k hk => by omega⟩
          | succ n ihn =>
            intro j hj h1 h2
            by_cases c : ∃ k, k < j ∧ listed.getD k false = false
            · obtain ⟨k, hk1, hk2⟩ := c
              exact ihn k (by omega) (by omega) hk2
            · refine ⟨j, h1, h2, fun k hk => ?_⟩
              cases hv : listed.getD k false with
              | true => rfl
              | false => exact absurd ⟨k, hk, hv⟩ c
        obtain ⟨i, hi1, hi2, hi3⟩ := least j j (Nat.le_refl _) hj1 hj2
        have : i ∈ Region.ready .any ops listed := (hready i).2 ⟨hi1, by
          rw [Array.getD_eq_getD_getElem?] at hi2 ⊢
          rw [Array.getElem?_eq_getElem (by omega)] at hi2 ⊢
          exact hi2, fun p hp e he hb => hi3 _ (hback i p hp e he hb)⟩
        rw [hnil] at this
        cases this
      · obtain ⟨hi1, hi2, hi3⟩ := (hready i).1 hi
        have hp : ops[i]? = some ops[i] := by simp [hi1]
        have hnl : listed.getD i false = false := by
          rw [Array.getD_eq_getD_getElem?] at hi2 ⊢
          rw [Array.getElem?_eq_getElem (by omega)] at hi2 ⊢
          exact hi2
        obtain ⟨hfact, hnext⟩ := f2 i _ (Nat.zero_le _) hp
        -- the frame agrees with the text's where the operation looks
        have hagree : ∀ t ∈ looks ops ops[i], (mixE ops listed env (F ops.size)).getD t .any = (F i).getD t .any := by
          intro t ht
          by_cases hlt : t < env.length
          · rw [getD_mixE hlt]
            obtain ⟨g1, g2⟩ := fget i (by omega) t hlt
            obtain ⟨gN1, gN2⟩ := fget ops.size (Nat.le_refl _) t hlt
            by_cases c : ∃ j, j < i ∧ writes ops j t = true
            · obtain ⟨j, hj, hw⟩ := c
              have hjl : j < ops.size := by omega
              have hq : ops[j]? = some ops[j] := by simp [hjl]
              have hjd : ops[j].dst = some t := by simpa [writes, hq] using hw
              have hedge := (hflow i j _ _ hp hq (by omega) t hjd).1 ht
              rw [if_pos hj] at hedge
              have hlj : listed.getD j false = true := by
                unfold dirEdge at hedge
                rw [List.any_eq_true] at hedge
                obtain ⟨e, he1, he2⟩ := hedge
                simp only [Bool.and_eq_true, beq_iff_eq] at he2
                have := hi3 _ hp e he1 he2.1
                rwa [he2.2] at this
              rw [if_pos (by unfold wr; rw [List.any_eq_true]; exact ⟨j, by simpa using hjl, by rw [hlj, hw]; rfl⟩), g1 j hj hw, gN1 j hjl hw]
            · rw [g2 fun j hj => by
                cases hw : writes ops j t with
                | false => rfl
                | true => exact absurd ⟨j, hj, hw⟩ c]
              rw [if_neg]
              intro hwr
              unfold wr at hwr
              rw [List.any_eq_true] at hwr
              obtain ⟨j, hj1, hj2⟩ := hwr
              simp only [Bool.and_eq_true] at hj2
              have hjl : j < ops.size := by simpa using hj1
              have hq : ops[j]? = some ops[j] := by simp [hjl]
              have hjd : ops[j].dst = some t := by simpa [writes, hq] using hj2.2
              have hne : i ≠ j := by rintro rfl; rw [hj2.1] at hnl; cases hnl
              have hnji : ¬ j < i := fun hji => c ⟨j, hji, hj2.2⟩
              have hedge := (hflow i j _ _ hp hq hne t hjd).1 ht
              rw [if_neg hnji] at hedge
              unfold dirEdge at hedge
              rw [List.any_eq_true] at hedge
              obtain ⟨e, he1, he2⟩ := hedge
              simp only [Bool.and_eq_true, beq_iff_eq] at he2
              have := i6 j hj2.1 _ hq e he1 he2.1
              rw [he2.2, hnl] at this
              cases this
          · rw [List.getD_eq_getElem?_getD, List.getD_eq_getElem?_getD, List.getElem?_eq_none (by rw [length_mixE]; omega), List.getElem?_eq_none (by rw [flen i (by omega)]; omega)]
        obtain ⟨hrun, hskip⟩ := hfact σ' w' a' _ i1 i5 hagree (by rw [length_mixE, flen i (by omega)])
        -- what stands behind it
        have hdone : ∀ (v : Value) (σ2 : Sig) (w2 : World), Inv st σ2 w2 → Ext st σ' w' st σ2 w2 → Rep st σ2 w2 (X i) v → Inv' (listed.setIfInBounds i true) (a'.put ops[i].dst v) w2 := by
          intro v σ2 w2 hI2 hX2 hr2
          have gl : ∀ k, (listed.setIfInBounds i true).getD k false = if k = i then true else listed.getD k false := by
            intro k
            rw [Array.getD_eq_getD_getElem?, Array.getD_eq_getD_getElem?]
            by_cases e : i = k
            · subst e; simp [show i < listed.size by omega]
            · rw [Array.getElem?_setIfInBounds_ne e, if_neg (fun h => e h.symm)]
          have hRE := i5.ext hX2
          refine ⟨σ2, hI2, i2.trans hX2, by rw [put_defers]; exact i3, by simpa using i4, ⟨?_, fun t ht => ?_⟩, fun k hk p hp' e he hb => ?_⟩
          · rw [length_mixE]
            have := hRE.1
            rw [length_mixE] at this
            cases ops[i].dst with
            | none => exact this
            | some d => simpa [Act.put] using this
          · rw [length_mixE] at ht
            have hput := rep_put hRE ops[i].dst hr2
            have h1 := hput.2 t (by rw [length_putE, length_mixE]; exact ht)
            rw [putE_get (by rw [length_mixE]; exact ht)] at h1
            have e : (mixE ops (listed.setIfInBounds i true) env (F ops.size)).getD t .any = if ops[i].dst = some t then X i else (mixE ops listed env (F ops.size)).getD t .any := by
              rw [getD_mixE ht, getD_mixE ht]
              obtain ⟨gN1, gN2⟩ := fget ops.size (Nat.le_refl _) t ht
              by_cases c : ops[i].dst = some t
              · rw [if_pos c, if_pos]
                · exact gN1 i hi1 (by simp [writes, hp, c])
                · unfold wr
                  rw [List.any_eq_true]
                  exact ⟨i, by simpa using hi1, by rw [gl, if_pos rfl]; simp [writes, hp, c]⟩
              · rw [if_neg c]
                have e2 : wr ops (listed.setIfInBounds i true) t = wr ops listed t := by
                  unfold wr
                  apply Bool.eq_iff_iff.2
                  rw [List.any_eq_true, List.any_eq_true]
                  constructor
                  · rintro ⟨j, hj1, hj2⟩
                    simp only [Bool.and_eq_true] at hj2
                    refine ⟨j, hj1, ?_⟩
                    rw [gl] at hj2
                    by_cases ej : j = i
                    · subst ej; exact absurd (by simpa [writes, hp] using hj2.2) c
                    · rw [if_neg ej] at hj2; simp [hj2.1, hj2.2]
                  · rintro ⟨j, hj1, hj2⟩
                    simp only [Bool.and_eq_true] at hj2
                    refine ⟨j, hj1, ?_⟩
                    rw [gl]
                    split <;> simp [hj2.1, hj2.2]
                rw [e2]
            rw [e]
            exact h1
          · rw [gl] at hk ⊢
            split
            · rfl
            · by_cases ek : k = i
              · subst ek
                rw [hp] at hp'; cases hp'
                exact hi3 _ hp e he hb
              · rw [if_neg ek] at hk
                exact i6 k hk p hp' e he hb
        have hcount : ((List.range ops.size).filter fun j => !(listed.setIfInBounds i true).getD j false).length = fuel := by
          have h1 : ((List.range ops.size).filter fun j => !listed.getD j false) = (List.range ops.size).filter fun j => !listed.getD j false := rfl
          have hperm : ∀ l : List Nat, l.Nodup → i ∈ l → (l.filter fun j => !listed.getD j false).length = (l.filter fun j => !(listed.setIfInBounds i true).getD j false).length + 1 := by
            intro l
            have gl : ∀ k, (listed.setIfInBounds i true).getD k false = if k = i then true else listed.getD k false := by
              intro k
              rw [Array.getD_eq_getD_getElem?, Array.getD_eq_getD_getElem?]
              by_cases e : i = k
              · subst e; simp [show i < listed.size by omega]
              · rw [Array.getElem?_setIfInBounds_ne e, if_neg (fun h => e h.symm)]
            induction l with
            | nil => intro _ h; cases h
            | cons x r ihr =>
              intro hnd hmem
              rw [List.nodup_cons] at hnd
              by_cases e : x = i
              · subst e
                have hrest : (r.filter fun j => !listed.getD j false) = r.filter fun j => !(listed.setIfInBounds x true).getD j false := by
                  apply List.filter_congr
                  intro j hj
                  rw [gl, if_neg (by rintro rfl; exact hnd.1 hj)]
                rw [List.filter_cons, List.filter_cons, if_pos (by rw [hnl]; rfl), if_neg (by rw [gl, if_pos rfl]; decide), hrest]
                simp
              · have hm : i ∈ r := by
                  cases hmem with
                  | head => exact absurd rfl e
                  | tail _ h => exact h
                have := ihr hnd.2 hm
                simp only [List.filter_cons, gl x, if_neg e]
                split <;> simp only [List.length_cons, this]
          have := hperm _ List.nodup_range (by simpa using hi1)
          omega
        unfold wpOp
        rw [hp]
        simp only
        cases hwt : Region.wanted ops[i] (yielded ops a'.tmps) with
        | true =>
          simp only [if_true]
          obtain ⟨Q0, hq0, hwp⟩ := hrun hwt
          refine .inl (upon_mono ?_ (fun e a w h => absurd h (hq0 e a w)) hwp)
          rintro a2 w2 ⟨v, σ2, rfl, hI2, hX2, hr2⟩
          exact ih _ _ _ hcount (hdone v σ2 w2 hI2 hX2 hr2)
        | false =>
          simp only [Bool.false_eq_true, if_false]
          exact ih _ _ _ hcount (hdone undef σ' w' i1 (Ext.refl _ _ _) (hskip hwt))
  have hd0 : Ext st σ w st σ { w with drawn := w.drawn + 1 } := Ext.drew _
  refine wp_region_any hm (key ops.size _ a _ ?_ ⟨σ, hI.drew _, hd0, hd, by simp, ?_, fun i hi => ?_⟩)
  · have : ((List.range ops.size).filter fun j => !(Array.replicate ops.size false).getD j false) = List.range ops.size := by
      apply List.filter_eq_self.2
      intro j hj
      simp [Array.getD]
    rw [this]; simp
  · have e : mixE ops (Array.replicate ops.size false) env (F ops.size) = env := by
      apply List.ext_getElem?
      intro t
      by_cases ht : t < env.length
      · have hw : wr ops (Array.replicate ops.size false) t = false := by
          unfold wr
          rw [List.any_eq_false]
          intro j hj
          simp [Array.getD]
        simp [mixE, hw, ht]
      · rw [List.getElem?_eq_none (by rw [length_mixE]; omega), List.getElem?_eq_none (by omega)]
    rw [e]
    exact hR.ext hd0
  · simp [Array.getD] at hi

end Go.AL
