/- The abstract layer, part 9: regions whose order is drawn: whatever the order, the same comes of them. -/
import Derived.Test.YtcanmhognofheaaA2
set_option linter.all false
set_option linter.unusedVariables false
namespace Go.AL
variable {P : Program}
def onlyAt (s : List Nat) : Nat → List SV → List SV
  | _,[] => []
  | k,x :: r => (if s.contains k then x else .any) :: onlyAt s (k + 1) r
theorem length_onlyAt (s : List Nat) : ∀ (k : Nat) (l : List SV),(onlyAt s k l).length = l.length
  | _,[] => rfl
  | k,x :: r => by simp [onlyAt,length_onlyAt s (k + 1) r]
theorem getD_onlyAt (s : List Nat) : ∀ (k : Nat) (l : List SV) (i : Nat),i < l.length → (onlyAt s k l).getD i .any = if s.contains (k + i) then l.getD i .any else .any
  | k,x :: r,0,h => rfl
  | k,x :: r,i + 1,h => by
    have := getD_onlyAt s (k + 1) r i (by simpa using h)
    simp only [onlyAt,List.getD_cons_succ,this,show k + 1 + i = k + (i + 1) by omega]
def Kept (st : St) (X : SV) : SV → St → Prop := fun x s => (∃ ex,s = st ++ ex) ∧ Ids st.length X ∧ (X = x ∨ X = norm x)
def dkSpec (P : Program) (M : List Nat) (o : Oper) (env : List SV) (st : St) (next : SV → Prop) : Kd → Prop
  | .pure => okCore P st (ev env) o.op ∧ next (valCore P st (ev env) o.op)
  | .pick c x y => pickOk (ev env c) (ev env x) (ev env y) ∧ next (pickV (ev env c) (ev env x) (ev env y))
  | .eff => ∃ X,effSpec P M o (onlyAt (opTmps o.op.operands.toList) 0 env) st (Kept st X) ∧ next X
def dgSpec (P : Program) (M : List Nat) (o : Oper) (env : List SV) (st : St) (g : Bool) (next : SV → Prop) : Kd → Prop
  | .pure => gAll (g = true) env o.op.operands.toList ∧ (g = true → okCore P st (fun y => strip (ev env y)) o.op) ∧ next (.gd g (valCore P st (fun y => strip (ev env y)) o.op))
  | .pick c x y => gIf (g = true) (ev env c) ∧ (g = true → pickOk (strip (ev env c)) (ev env x) (ev env y)) ∧ next (.gd g (pickV (strip (ev env c)) (ev env x) (ev env y)))
  | .eff => gAll (g = true) env o.op.operands.toList ∧ ∃ X,(g = true → effSpec P M o (stripAt (opTmps o.op.operands.toList) 0 (onlyAt (opTmps o.op.operands.toList) 0 env)) st (Kept st X)) ∧ next (.gd g X)
def d1Spec (P : Program) (M : List Nat) (ds : List (Option Tmp)) (o : Oper) (env : List SV) (st : St) (next : SV → Prop) : Prop :=
  match o.guard with
  | none => dkSpec P M o env st next (kindOf o.op)
  | some (j,want) => gValOk (gSlot ds j env) ∧ dgSpec P M o env st (gVal want (gSlot ds j env)) next (kindOf o.op)
def drawSpec (P : Program) (M : List Nat) (ds : List (Option Tmp)) : List Oper → List SV → St → (List SV → Prop) → Prop
  | [],env,st,K => K env
  | o :: r,env,st,K => d1Spec P M ds o env st fun x => drawSpec P M ds r (putE env o.dst x) st K
def looks (ops : Array Oper) (o : Oper) : List Nat := opTmps o.op.operands.toList ++ (match o.guard with | some (j,_) => ((ops[j]?).bind (·.dst)).toList | none => [])
def dirEdge (o : Oper) (j : Nat) : Bool := o.after.toList.any fun e => Region.binds .any e && e.on == j
def flowAt (ops : Array Oper) (i j : Nat) : Bool :=
  match ops[i]?,ops[j]? with
  | some a,some b =>
    (i == j) || ((match b.dst with
      | some t => (!(looks ops a).contains t || (if j < i then dirEdge a j else dirEdge b i)) && a.dst != some t
      | none => true))
  | _,_ => true
def flowOk (ops : Array Oper) : Bool :=
  (List.range ops.size).all fun i => (List.range ops.size).all (flowAt ops i) && ((ops[i]?).map fun o => o.after.toList.all fun e => !Region.binds .any e || decide (e.on < i)).getD true
def OpFact (P : Program) (ops : Array Oper) (st : St) (o : Oper) (E : List SV) (X : SV) : Prop :=
  ∀ σ w (a : Act) (env : List SV),Inv st σ w → RepEnv st σ w env a.tmps → (∀ t ∈ looks ops o,env.getD t .any = E.getD t .any) → env.length = E.length →
    (Region.wanted o (yielded ops a.tmps) = true → ∃ Q0 : Exit → Act → World → Prop,(∀ e a w,¬ Q0 e a w) ∧
      o.wp P a w (fun a' w' => ∃ v σ',a' = a.put o.dst v ∧ Inv st σ' w' ∧ Ext st σ w st σ' w' ∧ Rep st σ' w' X v) Q0) ∧
    (Region.wanted o (yielded ops a.tmps) = false → Rep st σ w X undef)
theorem kept_wp {o : Oper} {E env : List SV} {st : St} {X : SV} (h : AOp P o (Kept st X) E st) {σ : Sig} {w : World} {a : Act} (hI : Inv st σ w) (hR : RepEnv st σ w E a.tmps) :
    o.wp P a w (fun a' w' => ∃ v σ',a' = a.put o.dst v ∧ Inv st σ' w' ∧ Ext st σ w st σ' w' ∧ Rep st σ' w' X v) (fun _ _ _ => False) := by
  refine upon_mono ?_ (fun _ _ _ h => h) (h σ w a hI hR)
  rintro a' w' ⟨v,x,s,σ',rfl,⟨⟨ex,rfl⟩,hids,hx⟩,hI',hr,hX⟩
  have hrX : Rep (st ++ ex) σ' w' X v := by rcases hx with rfl | rfl; exact hr; exact hr.norm
  refine ⟨v,σ',rfl,hI'.drop hI.obIds,hX.drop (Nat.le_refl _),hrX.drop hids⟩
theorem mem_looks {ops : Array Oper} {o : Oper} {t : Nat} (h : t ∈ opTmps o.op.operands.toList) : t ∈ looks ops o := List.mem_append_left _ h
theorem opTmps_mem {t : Nat} : ∀ {l : List Operand},Operand.tmp t ∈ l → t ∈ opTmps l
  | .tmp d :: r,h => by
    simp only [opTmps,List.mem_cons] at h ⊢
    rcases h with h | h
    · left; cases h; rfl
    · right; exact opTmps_mem h
  | .const v :: r,h => by
    simp only [opTmps]
    cases h with
    | tail _ h => exact opTmps_mem h
  | .global v :: r,h => by
    simp only [opTmps]
    cases h with
    | tail _ h => exact opTmps_mem h
  | .func v :: r,h => by
    simp only [opTmps]
    cases h with
    | tail _ h => exact opTmps_mem h
theorem ev_same {ops : Array Oper} {o : Oper} {env E : List SV} (h : ∀ t ∈ looks ops o,env.getD t .any = E.getD t .any) {y : Operand} (hy : y ∈ o.op.operands) : ev env y = ev E y := by
  cases y with
  | tmp t => exact h t (mem_looks (opTmps_mem (by simpa using hy)))
  | _ => rfl
theorem rep_only {ops : Array Oper} {o : Oper} {st : St} {σ : Sig} {w : World} {t : Array Value} {env E : List SV} (hR : RepEnv st σ w env t) (h : ∀ i ∈ looks ops o,env.getD i .any = E.getD i .any)
    (hl : env.length = E.length) : RepEnv st σ w (onlyAt (opTmps o.op.operands.toList) 0 E) t := by
  refine ⟨by rw [length_onlyAt,← hl]; exact hR.1,fun i hi => ?_⟩
  rw [length_onlyAt] at hi
  rw [getD_onlyAt _ _ _ _ hi,Nat.zero_add]
  split
  · rename_i hc
    rw [← h i (mem_looks (by simpa using hc))]
    exact hR.2 i (by omega)
  · exact .any _
theorem gAll_same {ops : Array Oper} {o : Oper} {env E : List SV} (h : ∀ t ∈ looks ops o,env.getD t .any = E.getD t .any) {p : Prop} : ∀ (l : List Operand),(∀ y ∈ l,y ∈ o.op.operands) → gAll p E l → gAll p env l
  | [],_,_ => trivial
  | y :: r,hm,hg => ⟨by rw [ev_same h (hm y (by simp))]; exact hg.1,gAll_same h r (fun z hz => hm z (by simp [hz])) hg.2⟩
theorem gAll_only {p : Prop} {E : List SV} (s : List Nat) : ∀ (l : List Operand),(∀ t,Operand.tmp t ∈ l → t ∈ s) → gAll p E l → gAll p (onlyAt s 0 E) l
  | [],_,_ => trivial
  | y :: r,hm,hg => by
    refine ⟨?_,gAll_only s r (fun t ht => hm t (by simp [ht])) hg.2⟩
    cases y with
    | tmp t =>
      simp only [ev]
      by_cases hl : t < E.length
      · rw [getD_onlyAt _ _ _ _ hl,Nat.zero_add,if_pos (by simpa using hm t (by simp))]; exact hg.1
      · rw [List.getD_eq_getElem?_getD,List.getElem?_eq_none (show (onlyAt s 0 E).length ≤ t by rw [length_onlyAt]; exact Nat.not_lt.1 hl)]; trivial
    | _ => exact hg.1
theorem fact_of {M : List Nat} {ops : Array Oper} {o : Oper} {E : List SV} {st : St} {next : SV → Prop} (h : d1Spec P M (ops.toList.map (·.dst)) o E st next) :
    ∃ X,OpFact P ops st o E X ∧ next X := by
  unfold d1Spec at h
  split at h
  · rename_i hg
    have hw : ∀ t,Region.wanted o (yielded ops t) = true := fun t => by simp [Region.wanted,hg]
    cases hk : kindOf o.op with
    | pure =>
      rw [hk] at h
      refine ⟨_,fun σ w a env hI hR hs hl => ⟨fun _ => ⟨fun _ _ _ => False,fun _ _ _ h => h,?_⟩,fun hf => by rw [hw] at hf; cases hf⟩,h.2⟩
      obtain ⟨v,hrun,hrep⟩ := pure_of hk h.1 σ w a hI (fun y hy => by rw [← ev_same hs hy]; exact rep_ev hR y)
      unfold Oper.wp
      rw [hrun]
      exact ⟨v,σ,rfl,hI,Ext.refl _ _ _,hrep⟩
    | pick c x y =>
      rw [hk] at h
      refine ⟨_,fun σ w a env hI hR hs hl => ⟨fun _ => ⟨fun _ _ _ => False,fun _ _ _ h => h,?_⟩,fun hf => by rw [hw] at hf; cases hf⟩,h.2⟩
      obtain ⟨v,hrun,hrep⟩ := ap_pick' (P := P) (ρ := ev E) (st := st) (kindOf_pick hk) h.1 σ w a hI (fun y hy => by rw [← ev_same hs hy]; exact rep_ev hR y)
      unfold Oper.wp
      rw [hrun]
      exact ⟨v,σ,rfl,hI,Ext.refl _ _ _,hrep⟩
    | eff =>
      rw [hk] at h
      obtain ⟨X,h1,h2⟩ := h
      exact ⟨X,fun σ w a env hI hR hs hl => ⟨fun _ => ⟨fun _ _ _ => False,fun _ _ _ h => h,kept_wp (env := env) (aop_eff h1) hI (rep_only hR hs hl)⟩,fun hf => by rw [hw] at hf; cases hf⟩,h2⟩
  · rename_i j want hg
    obtain ⟨h1,h⟩ := h
    obtain ⟨d,hd,he⟩ := gSlot_some h1
    have hlook : d ∈ looks ops o := by
      unfold looks
      rw [hg]
      exact List.mem_append_right _ (by simp [hd])
    have hw : ∀ {σ : Sig} {w : World} {a : Act} {env : List SV},RepEnv st σ w env a.tmps → (∀ t ∈ looks ops o,env.getD t .any = E.getD t .any) →
        Region.wanted o (yielded ops a.tmps) = gVal want (gSlot (ops.toList.map (·.dst)) j E) := by
      intro σ w a env hR hs
      rw [he] at h1 ⊢
      rw [← hs d hlook] at h1 ⊢
      simp only [Region.wanted,hg]
      exact yield_gVal hd h1 hR
    generalize gVal want (gSlot (ops.toList.map (·.dst)) j E) = g at h hw
    have skipc : ∀ X : SV,g = false → ∀ {σ : Sig} {w : World},Rep st σ w (.gd g X) undef := fun X e σ w => .gd g X _ (fun e' => by rw [e] at e'; cases e') (fun _ => rfl)
    cases hk : kindOf o.op with
    | pure =>
      rw [hk] at h
      obtain ⟨g1,g2,g3⟩ := h
      refine ⟨_,fun σ w a env hI hR hs hl => ⟨fun hwt => ⟨fun _ _ _ => False,fun _ _ _ h => h,?_⟩,fun hf => skipc _ ((hw hR hs).symm.trans hf)⟩,g3⟩
      have hgt : g = true := (hw hR hs).symm.trans hwt
      obtain ⟨v,hrun,hrep⟩ := pure_of hk (g2 hgt) σ w a hI (fun y hy => by
        have := rep_strip (rep_ev hR y) (gAll_mem _ (gAll_same hs _ (fun z hz => by simpa using hz) g1) y (by simpa using hy)) hgt
        rwa [ev_same hs hy] at this)
      unfold Oper.wp
      rw [hrun]
      exact ⟨v,σ,rfl,hI,Ext.refl _ _ _,.gd g _ v (fun _ => hrep) (fun e => by rw [hgt] at e; cases e)⟩
    | pick c x y =>
      rw [hk] at h
      obtain ⟨g1,g2,g3⟩ := h
      have hop := kindOf_pick hk
      refine ⟨_,fun σ w a env hI hR hs hl => ⟨fun hwt => ⟨fun _ _ _ => False,fun _ _ _ h => h,?_⟩,fun hf => skipc _ ((hw hR hs).symm.trans hf)⟩,g3⟩
      have hgt : g = true := (hw hR hs).symm.trans hwt
      have ec := ev_same hs (y := c) (by simp [hop,Op.operands])
      have ex := ev_same hs (y := x) (by simp [hop,Op.operands])
      have ey := ev_same hs (y := y) (by simp [hop,Op.operands])
      obtain ⟨v,hrun,hrep⟩ : ∃ v,(execOp a.eval o).run P w = .ok (.value v) w ∧ Rep st σ w (pickV (strip (ev E c)) (ev E x) (ev E y)) v := by
        have rc := rep_strip (rep_ev hR c) (by rw [ec]; exact g1) hgt
        rw [ec] at rc
        have h := g2 hgt
        unfold pickOk at h
        split at h
        · rename_i t hc
          rw [hc] at rc
          have e := rep_sc rc
          refine ⟨if t then a.eval x else a.eval y,by cases t <;> simp [execOp,hop,e,asBool],?_⟩
          rw [hc]
          refine rep_pickB ?_
          cases t
          · have ry := rep_ev hR y
            rw [ey] at ry
            exact rep_strip ry h.2 rfl
          · have rx := rep_ev hR x
            rw [ex] at rx
            exact rep_strip rx h.1 rfl
        · exact h.elim
      unfold Oper.wp
      rw [hrun]
      exact ⟨v,σ,rfl,hI,Ext.refl _ _ _,.gd g _ v (fun _ => hrep) (fun e => by rw [hgt] at e; cases e)⟩
    | eff =>
      rw [hk] at h
      obtain ⟨g1,X,g2,g3⟩ := h
      refine ⟨_,fun σ w a env hI hR hs hl => ⟨fun hwt => ⟨fun _ _ _ => False,fun _ _ _ h => h,?_⟩,fun hf => skipc _ ((hw hR hs).symm.trans hf)⟩,g3⟩
      have hgt : g = true := (hw hR hs).symm.trans hwt
      have hRo := rep_only hR hs hl
      have hRs := rep_stripAt hgt hRo (gAll_only _ _ (fun t ht => opTmps_mem ht) g1)
      refine upon_mono ?_ (fun _ _ _ h => h) (kept_wp (env := env) (aop_eff (g2 hgt)) hI hRs)
      rintro a' w' ⟨v,σ',rfl,hI',hX,hr⟩
      exact ⟨v,σ',rfl,hI',hX,.gd g _ v (fun _ => hr) (fun e => by rw [hgt] at e; cases e)⟩
theorem chain_of {M : List Nat} {ops : Array Oper} {st : St} {K : List SV → Prop} : ∀ (n : Nat) (l : List Oper) (env : List SV),ops.toList.drop n = l → drawSpec P M (ops.toList.map (·.dst)) l env st K →
    ∃ (F : Nat → List SV) (X : Nat → SV),F n = env ∧ (∀ i o,n ≤ i → ops[i]? = some o → OpFact P ops st o (F i) (X i) ∧ F (i + 1) = putE (F i) o.dst (X i)) ∧ K (F (n + l.length))
  | n,[],env,hl,h => by
    refine ⟨fun _ => env,fun _ => .any,rfl,fun i o hi ho => ?_,h⟩
    have h1 := lt_of_some ho
    have h2 := congrArg List.length hl
    simp at h2
    omega
  | n,o :: r,env,hl,h => by
    have ho : ops[n]? = some o := by
      have : (ops.toList.drop n)[0]? = some o := by rw [hl]; rfl
      rw [List.getElem?_drop,Nat.add_zero,Array.getElem?_toList] at this
      exact this
    have hr : ops.toList.drop (n + 1) = r := by rw [← List.drop_drop,hl]; rfl
    obtain ⟨x,h1,h2⟩ := fact_of h
    obtain ⟨F,X,f1,f2,f3⟩ := chain_of (n + 1) r _ hr h2
    refine ⟨fun i => if i = n then env else F i,fun i => if i = n then x else X i,by simp,fun i p hi hp => ?_,?_⟩
    · by_cases e : i = n
      · subst e
        rw [ho] at hp; cases hp
        simp only [if_true,show ¬ i + 1 = i by omega,if_false]
        exact ⟨h1,f1⟩
      · simp only [if_neg e,show ¬ i + 1 = n by omega,if_false]
        exact f2 i p (by omega) hp
    · simp only [List.length_cons]
      rw [if_neg (by omega),show n + (r.length + 1) = n + 1 + r.length by omega]
      exact f3
def writes (ops : Array Oper) (j t : Nat) : Bool := ((ops[j]?).bind (·.dst)) == some t
def wr (ops : Array Oper) (listed : Array Bool) (t : Nat) : Bool := (List.range ops.size).any fun j => listed.getD j false && writes ops j t
def mixE (ops : Array Oper) (listed : Array Bool) (e0 eN : List SV) : List SV := (List.range e0.length).map fun t => if wr ops listed t then eN.getD t .any else e0.getD t .any
theorem length_mixE {ops : Array Oper} {listed : Array Bool} {e0 eN : List SV} : (mixE ops listed e0 eN).length = e0.length := by simp [mixE]
theorem getD_mixE {ops : Array Oper} {listed : Array Bool} {e0 eN : List SV} {t : Nat} (ht : t < e0.length) :
    (mixE ops listed e0 eN).getD t .any = if wr ops listed t then eN.getD t .any else e0.getD t .any := by
  simp [mixE,List.getD_eq_getElem?_getD,ht]
theorem putE_get {env : List SV} {d : Option Tmp} {x : SV} {t : Nat} (ht : t < env.length) : (putE env d x).getD t .any = if d = some t then x else env.getD t .any := by
  cases d with
  | none => simp [putE]
  | some d =>
    simp only [putE,Option.some.injEq]
    by_cases e : d = t
    · subst e; simp [List.getD_eq_getElem?_getD,ht]
    · simp [List.getD_eq_getElem?_getD,List.getElem?_set_ne e,e]
theorem length_putE {env : List SV} {d : Option Tmp} {x : SV} : (putE env d x).length = env.length := by cases d <;> simp [putE]
theorem awp_draw (M : List Nat) {id : Nat} {ops : Array Oper} {Q : Exit → List SV → St → Prop} {env : List SV} {st : St} (hm : P.follows .mixedOrders = true) (hf : flowOk ops = true)
    (h : drawSpec P M (ops.toList.map (·.dst)) ops.toList env st fun e => Q .normal e st) : AWp P (.region id ops true) Q env st := by
  intro σ w a hI hR D hd
  obtain ⟨F,X,f1,f2,f3⟩ := chain_of 0 ops.toList env rfl h
  simp only [Nat.zero_add,Array.length_toList] at f3
  have hflow : ∀ i j p q,ops[i]? = some p → ops[j]? = some q → i ≠ j → ∀ t,q.dst = some t → (t ∈ looks ops p → if j < i then dirEdge p j = true else dirEdge q i = true) ∧ p.dst ≠ some t := by
    intro i j p q hp hq hne t ht
    have h1 := lt_of_some hp
    have h2 := lt_of_some hq
    unfold flowOk at hf
    rw [List.all_eq_true] at hf
    have h3 := hf i (by simpa using h1)
    simp only [Bool.and_eq_true,List.all_eq_true] at h3
    have h4 := h3.1 j (by simpa using h2)
    unfold flowAt at h4
    rw [hp,hq] at h4
    simp only [ht,Bool.or_eq_true,beq_iff_eq,Bool.and_eq_true,Bool.not_eq_true',bne_iff_ne,ne_eq] at h4
    rcases h4 with h4 | ⟨h4,h5⟩
    · exact absurd h4 hne
    · refine ⟨fun hlk => ?_,h5⟩
      rcases h4 with h4 | h4
      · simp [hlk] at h4
      · split <;> rename_i hji <;> simpa [hji] using h4
  have hback : ∀ i p,ops[i]? = some p → ∀ e,e ∈ p.after.toList → Region.binds .any e = true → e.on < i := by
    intro i p hp e he hb
    have h1 := lt_of_some hp
    unfold flowOk at hf
    rw [List.all_eq_true] at hf
    have h3 := hf i (by simpa using h1)
    simp only [Bool.and_eq_true,hp,Option.map_some,Option.getD_some,List.all_eq_true] at h3
    have h4 := h3.2 e he
    simpa [hb] using h4
  have flen : ∀ i,i ≤ ops.size → (F i).length = env.length := by
    intro i
    induction i with
    | zero => intro _; rw [f1]
    | succ i ih =>
      intro hi
      have hp : ops[i]? = some ops[i] := by simp [show i < ops.size by omega]
      rw [(f2 i _ (Nat.zero_le _) hp).2,length_putE,ih (by omega)]
  have fget : ∀ i,i ≤ ops.size → ∀ t,t < env.length → (∀ j,j < i → writes ops j t = true → (F i).getD t .any = X j) ∧ ((∀ j,j < i → writes ops j t = false) → (F i).getD t .any = env.getD t .any) := by
    intro i
    induction i with
    | zero => intro _ t ht; exact ⟨fun j hj => absurd hj (Nat.not_lt_zero _),fun _ => by rw [f1]⟩
    | succ i ih =>
      intro hi t ht
      obtain ⟨ih1,ih2⟩ := ih (by omega) t ht
      have hp : ops[i]? = some ops[i] := by simp [show i < ops.size by omega]
      have he := (f2 i _ (Nat.zero_le _) hp).2
      have hg : (F (i + 1)).getD t .any = if ops[i].dst = some t then X i else (F i).getD t .any := by rw [he]; exact putE_get (by rw [flen i (by omega)]; exact ht)
      have hwi : writes ops i t = true ↔ ops[i].dst = some t := by simp [writes,hp]
      refine ⟨fun j hj hw => ?_,fun hno => ?_⟩
      · rw [hg]
        by_cases c : ops[i].dst = some t
        · rw [if_pos c]
          by_cases e : j = i
          · rw [e]
          · have hjl : j < ops.size := by omega
            have hq : ops[j]? = some ops[j] := by simp [hjl]
            have hjd : ops[j].dst = some t := by simpa [writes,hq] using hw
            exact absurd c (hflow i j _ _ hp hq (by omega) t hjd).2
        · rw [if_neg c]
          have e : j ≠ i := by rintro rfl; exact c (hwi.1 hw)
          exact ih1 j (by omega) hw
      · rw [hg,if_neg (fun c => by have := hno i (by omega); rw [hwi.2 c] at this; cases this)]
        exact ih2 fun j hj => hno j (by omega)
  let Inv' : Array Bool → Act → World → Prop := fun listed a' w' => ∃ σ',Inv st σ' w' ∧ Ext st σ w st σ' w' ∧ a'.defers = D ∧ listed.size = ops.size ∧
    RepEnv st σ' w' (mixE ops listed env (F ops.size)) a'.tmps ∧ ∀ i,listed.getD i false = true → ∀ p,ops[i]? = some p → ∀ e,e ∈ p.after.toList → Region.binds .any e = true → listed.getD e.on false = true
  have key : ∀ (fuel : Nat) (listed : Array Bool) (a' : Act) (w' : World),((List.range ops.size).filter fun j => !listed.getD j false).length = fuel → Inv' listed a' w' →
      wpAny P .any ops (fun e a' w' => Post D (Q e) st σ w a' w') fuel listed a' w' := by
    intro fuel
    induction fuel with
    | zero =>
      intro listed a' w' hc hI'
      obtain ⟨σ',i1,i2,i3,i4,i5,i6⟩ := hI'
      have hall : ∀ j,j < ops.size → listed.getD j false = true := by
        intro j hj
        have h0 : (List.range ops.size).filter (fun j => !listed.getD j false) = [] := List.eq_nil_of_length_eq_zero hc
        rw [List.filter_eq_nil_iff] at h0
        simpa using h0 j (by simpa using hj)
      refine ⟨?_,i3,mixE ops listed env (F ops.size),st,σ',?_,i1,i5,i2⟩
      · unfold Region.ready
        rw [List.filter_eq_nil_iff]
        intro j hj
        have hj' : j < ops.size := by simpa using hj
        have h1 := hall j hj'
        have : listed.getD j true = true := by
          rw [Array.getD_eq_getD_getElem?] at h1 ⊢
          rw [Array.getElem?_eq_getElem (by omega)] at h1 ⊢
          exact h1
        simp [this]
      · have e : mixE ops listed env (F ops.size) = F ops.size := by
          apply List.ext_getElem?
          intro t
          by_cases ht : t < env.length
          · have h1 := getD_mixE (ops := ops) (listed := listed) (eN := F ops.size) ht
            have hl1 : t < (mixE ops listed env (F ops.size)).length := by rw [length_mixE]; exact ht
            have hl2 : t < (F ops.size).length := by rw [flen _ (Nat.le_refl _)]; exact ht
            rw [List.getElem?_eq_getElem hl1,List.getElem?_eq_getElem hl2]
            simp only [List.getD_eq_getElem?_getD,List.getElem?_eq_getElem hl1,List.getElem?_eq_getElem hl2,Option.getD_some] at h1
            rw [h1]
            split
            · rfl
            · rename_i hno
              have h2 := (fget ops.size (Nat.le_refl _) t ht).2 (fun j hj => by
                cases hw : writes ops j t with
                | false => rfl
                | true =>
                  exfalso
                  apply hno
                  unfold wr
                  rw [List.any_eq_true]
                  exact ⟨j,by simpa using hj,by rw [hall j hj,hw]; rfl⟩)
              simp only [List.getD_eq_getElem?_getD,List.getElem?_eq_getElem hl2,Option.getD_some] at h2
              rw [h2]
          · rw [List.getElem?_eq_none (by rw [length_mixE]; omega),List.getElem?_eq_none (by rw [flen _ (Nat.le_refl _)]; omega)]
        rw [e]
        exact f3
    | succ fuel ih =>
      intro listed a' w' hc hI'
      obtain ⟨σ',i1,i2,i3,i4,i5,i6⟩ := hI'
      have hready : ∀ i,i ∈ Region.ready .any ops listed ↔ i < ops.size ∧ listed.getD i true = false ∧ ∀ p,ops[i]? = some p → ∀ e,e ∈ p.after.toList → Region.binds .any e = true → listed.getD e.on false = true := by
        intro i
        unfold Region.ready
        rw [List.mem_filter]
        constructor
        · rintro ⟨h1,h2⟩
          have h1' : i < ops.size := by simpa using h1
          simp only [Bool.and_eq_true,Bool.not_eq_true'] at h2
          refine ⟨h1',h2.1,fun p hp e he hb => ?_⟩
          have h3 := h2.2
          rw [hp] at h3
          simp only [Option.map_some,Option.getD_some,Array.all_eq_true'] at h3
          have := h3 e (by simpa using he)
          simpa [hb] using this
        · rintro ⟨h1,h2,h3⟩
          refine ⟨by simpa using h1,?_⟩
          have hp : ops[i]? = some ops[i] := by simp [h1]
          simp only [h2,hp,Option.map_some,Option.getD_some,Bool.not_false,Bool.true_and,Array.all_eq_true']
          intro e he
          cases hb : Region.binds .any e with
          | false => rfl
          | true => simpa using h3 _ hp e (by simpa using he) hb
      refine ⟨fun hnil => ?_,fun i hi => ?_⟩
      · -- the least one that is not listed is ready
        exfalso
        have hex : ∃ j,j < ops.size ∧ listed.getD j false = false := by
          have hne : (List.range ops.size).filter (fun j => !listed.getD j false) ≠ [] := by intro h0; rw [h0] at hc; cases hc
          obtain ⟨j,hj⟩ := List.exists_mem_of_ne_nil _ hne
          rw [List.mem_filter] at hj
          exact ⟨j,by simpa using hj.1,by simpa using hj.2⟩
        obtain ⟨j,hj1,hj2⟩ := hex
        have least : ∀ n,∀ j,j ≤ n → j < ops.size → listed.getD j false = false → ∃ i,i < ops.size ∧ listed.getD i false = false ∧ ∀ k,k < i → listed.getD k false = true := by
          intro n
          induction n with
          | zero =>
            intro j hj h1 h2
            exact ⟨j,h1,h2,fun k hk => by omega⟩
          | succ n ihn =>
            intro j hj h1 h2
            by_cases c : ∃ k,k < j ∧ listed.getD k false = false
            · obtain ⟨k,hk1,hk2⟩ := c
              exact ihn k (by omega) (by omega) hk2
            · refine ⟨j,h1,h2,fun k hk => ?_⟩
              cases hv : listed.getD k false with
              | true => rfl
              | false => exact absurd ⟨k,hk,hv⟩ c
        obtain ⟨i,hi1,hi2,hi3⟩ := least j j (Nat.le_refl _) hj1 hj2
        have : i ∈ Region.ready .any ops listed := (hready i).2 ⟨hi1,by
          rw [Array.getD_eq_getD_getElem?] at hi2 ⊢
          rw [Array.getElem?_eq_getElem (by omega)] at hi2 ⊢
          exact hi2,fun p hp e he hb => hi3 _ (hback i p hp e he hb)⟩
        rw [hnil] at this
        cases this
      · obtain ⟨hi1,hi2,hi3⟩ := (hready i).1 hi
        have hp : ops[i]? = some ops[i] := by simp [hi1]
        have hnl : listed.getD i false = false := by
          rw [Array.getD_eq_getD_getElem?] at hi2 ⊢
          rw [Array.getElem?_eq_getElem (by omega)] at hi2 ⊢
          exact hi2
        obtain ⟨hfact,hnext⟩ := f2 i _ (Nat.zero_le _) hp
        have hagree : ∀ t ∈ looks ops ops[i],(mixE ops listed env (F ops.size)).getD t .any = (F i).getD t .any := by
          intro t ht
          by_cases hlt : t < env.length
          · rw [getD_mixE hlt]
            obtain ⟨g1,g2⟩ := fget i (by omega) t hlt
            obtain ⟨gN1,gN2⟩ := fget ops.size (Nat.le_refl _) t hlt
            by_cases c : ∃ j,j < i ∧ writes ops j t = true
            · obtain ⟨j,hj,hw⟩ := c
              have hjl : j < ops.size := by omega
              have hq : ops[j]? = some ops[j] := by simp [hjl]
              have hjd : ops[j].dst = some t := by simpa [writes,hq] using hw
              have hedge := (hflow i j _ _ hp hq (by omega) t hjd).1 ht
              rw [if_pos hj] at hedge
              have hlj : listed.getD j false = true := by
                unfold dirEdge at hedge
                rw [List.any_eq_true] at hedge
                obtain ⟨e,he1,he2⟩ := hedge
                simp only [Bool.and_eq_true,beq_iff_eq] at he2
                have := hi3 _ hp e he1 he2.1
                rwa [he2.2] at this
              rw [if_pos (by unfold wr; rw [List.any_eq_true]; exact ⟨j,by simpa using hjl,by rw [hlj,hw]; rfl⟩),g1 j hj hw,gN1 j hjl hw]
            · rw [g2 fun j hj => by
                cases hw : writes ops j t with
                | false => rfl
                | true => exact absurd ⟨j,hj,hw⟩ c]
              rw [if_neg]
              intro hwr
              unfold wr at hwr
              rw [List.any_eq_true] at hwr
              obtain ⟨j,hj1,hj2⟩ := hwr
              simp only [Bool.and_eq_true] at hj2
              have hjl : j < ops.size := by simpa using hj1
              have hq : ops[j]? = some ops[j] := by simp [hjl]
              have hjd : ops[j].dst = some t := by simpa [writes,hq] using hj2.2
              have hne : i ≠ j := by rintro rfl; rw [hj2.1] at hnl; cases hnl
              have hnji : ¬ j < i := fun hji => c ⟨j,hji,hj2.2⟩
              have hedge := (hflow i j _ _ hp hq hne t hjd).1 ht
              rw [if_neg hnji] at hedge
              unfold dirEdge at hedge
              rw [List.any_eq_true] at hedge
              obtain ⟨e,he1,he2⟩ := hedge
              simp only [Bool.and_eq_true,beq_iff_eq] at he2
              have := i6 j hj2.1 _ hq e he1 he2.1
              rw [he2.2,hnl] at this
              cases this
          · rw [List.getD_eq_getElem?_getD,List.getD_eq_getElem?_getD,List.getElem?_eq_none (by rw [length_mixE]; omega),List.getElem?_eq_none (by rw [flen i (by omega)]; omega)]
        obtain ⟨hrun,hskip⟩ := hfact σ' w' a' _ i1 i5 hagree (by rw [length_mixE,flen i (by omega)])
        have hdone : ∀ (v : Value) (σ2 : Sig) (w2 : World),Inv st σ2 w2 → Ext st σ' w' st σ2 w2 → Rep st σ2 w2 (X i) v → Inv' (listed.setIfInBounds i true) (a'.put ops[i].dst v) w2 := by
          intro v σ2 w2 hI2 hX2 hr2
          have gl : ∀ k,(listed.setIfInBounds i true).getD k false = if k = i then true else listed.getD k false := by
            intro k
            rw [Array.getD_eq_getD_getElem?,Array.getD_eq_getD_getElem?]
            by_cases e : i = k
            · subst e; simp [show i < listed.size by omega]
            · rw [Array.getElem?_setIfInBounds_ne e,if_neg (fun h => e h.symm)]
          have hRE := i5.ext hX2
          refine ⟨σ2,hI2,i2.trans hX2,by rw [put_defers]; exact i3,by simpa using i4,⟨?_,fun t ht => ?_⟩,fun k hk p hp' e he hb => ?_⟩
          · rw [length_mixE]
            have := hRE.1
            rw [length_mixE] at this
            cases ops[i].dst with
            | none => exact this
            | some d => simpa [Act.put] using this
          · rw [length_mixE] at ht
            have hput := rep_put hRE ops[i].dst hr2
            have h1 := hput.2 t (by rw [length_putE,length_mixE]; exact ht)
            rw [putE_get (by rw [length_mixE]; exact ht)] at h1
            have e : (mixE ops (listed.setIfInBounds i true) env (F ops.size)).getD t .any = if ops[i].dst = some t then X i else (mixE ops listed env (F ops.size)).getD t .any := by
              rw [getD_mixE ht,getD_mixE ht]
              obtain ⟨gN1,gN2⟩ := fget ops.size (Nat.le_refl _) t ht
              by_cases c : ops[i].dst = some t
              · rw [if_pos c,if_pos]
                · exact gN1 i hi1 (by simp [writes,hp,c])
                · unfold wr
                  rw [List.any_eq_true]
                  exact ⟨i,by simpa using hi1,by rw [gl,if_pos rfl]; simp [writes,hp,c]⟩
              · rw [if_neg c]
                have e2 : wr ops (listed.setIfInBounds i true) t = wr ops listed t := by
                  unfold wr
                  apply Bool.eq_iff_iff.2
                  rw [List.any_eq_true,List.any_eq_true]
                  constructor
                  · rintro ⟨j,hj1,hj2⟩
                    simp only [Bool.and_eq_true] at hj2
                    refine ⟨j,hj1,?_⟩
                    rw [gl] at hj2
                    by_cases ej : j = i
                    · subst ej; exact absurd (by simpa [writes,hp] using hj2.2) c
                    · rw [if_neg ej] at hj2; simp [hj2.1,hj2.2]
                  · rintro ⟨j,hj1,hj2⟩
                    simp only [Bool.and_eq_true] at hj2
                    refine ⟨j,hj1,?_⟩
                    rw [gl]
                    split <;> simp [hj2.1,hj2.2]
                rw [e2]
            rw [e]
            exact h1
          · rw [gl] at hk ⊢
            split
            · rfl
            · by_cases ek : k = i
              · subst ek
                rw [hp] at hp'; cases hp'
                exact hi3 _ hp e he hb
              · rw [if_neg ek] at hk
                exact i6 k hk p hp' e he hb
        have hcount : ((List.range ops.size).filter fun j => !(listed.setIfInBounds i true).getD j false).length = fuel := by
          have h1 : ((List.range ops.size).filter fun j => !listed.getD j false) = (List.range ops.size).filter fun j => !listed.getD j false := rfl
          have hperm : ∀ l : List Nat,l.Nodup → i ∈ l → (l.filter fun j => !listed.getD j false).length = (l.filter fun j => !(listed.setIfInBounds i true).getD j false).length + 1 := by
            intro l
            have gl : ∀ k,(listed.setIfInBounds i true).getD k false = if k = i then true else listed.getD k false := by
              intro k
              rw [Array.getD_eq_getD_getElem?,Array.getD_eq_getD_getElem?]
              by_cases e : i = k
              · subst e; simp [show i < listed.size by omega]
              · rw [Array.getElem?_setIfInBounds_ne e,if_neg (fun h => e h.symm)]
            induction l with
            | nil => intro _ h; cases h
            | cons x r ihr =>
              intro hnd hmem
              rw [List.nodup_cons] at hnd
              by_cases e : x = i
              · subst e
                have hrest : (r.filter fun j => !listed.getD j false) = r.filter fun j => !(listed.setIfInBounds x true).getD j false := by
                  apply List.filter_congr
                  intro j hj
                  rw [gl,if_neg (by rintro rfl; exact hnd.1 hj)]
                rw [List.filter_cons,List.filter_cons,if_pos (by rw [hnl]; rfl),if_neg (by rw [gl,if_pos rfl]; decide),hrest]
                simp
              · have hm : i ∈ r := by
                  cases hmem with
                  | head => exact absurd rfl e
                  | tail _ h => exact h
                have := ihr hnd.2 hm
                simp only [List.filter_cons,gl x,if_neg e]
                split <;> simp only [List.length_cons,this]
          have := hperm _ List.nodup_range (by simpa using hi1)
          omega
        unfold wpOp
        rw [hp]
        simp only
        cases hwt : Region.wanted ops[i] (yielded ops a'.tmps) with
        | true =>
          simp only [if_true]
          obtain ⟨Q0,hq0,hwp⟩ := hrun hwt
          refine .inl (upon_mono ?_ (fun e a w h => absurd h (hq0 e a w)) hwp)
          rintro a2 w2 ⟨v,σ2,rfl,hI2,hX2,hr2⟩
          exact ih _ _ _ hcount (hdone v σ2 w2 hI2 hX2 hr2)
        | false =>
          simp only [Bool.false_eq_true,if_false]
          exact ih _ _ _ hcount (hdone undef σ' w' i1 (Ext.refl _ _ _) (hskip hwt))
  have hd0 : Ext st σ w st σ { w with drawn := w.drawn + 1 } := Ext.drew _
  refine wp_region_any hm (key ops.size _ a _ ?_ ⟨σ,hI.drew _,hd0,hd,by simp,?_,fun i hi => ?_⟩)
  · have : ((List.range ops.size).filter fun j => !(Array.replicate ops.size false).getD j false) = List.range ops.size := by
      apply List.filter_eq_self.2
      intro j hj
      simp [Array.getD]
    rw [this]; simp
  · have e : mixE ops (Array.replicate ops.size false) env (F ops.size) = env := by
      apply List.ext_getElem?
      intro t
      by_cases ht : t < env.length
      · have hw : wr ops (Array.replicate ops.size false) t = false := by
          unfold wr
          rw [List.any_eq_false]
          intro j hj
          simp [Array.getD]
        simp [mixE,hw,ht]
      · rw [List.getElem?_eq_none (by rw [length_mixE]; omega),List.getElem?_eq_none (by omega)]
    rw [e]
    exact hR.ext hd0
  · simp [Array.getD] at hi
end Go.AL
namespace Go.AL
variable {P : Program}
def ancB (ops : Array Oper) : Nat → Nat → Nat → Bool
  | 0,_,_ => false
  | n + 1,i,j => match ops[i]? with
    | some o => o.after.toList.any fun e => Region.binds .any e && (e.on == j || ancB ops n e.on j)
    | none => false
def ordOk (ops : Array Oper) : List Nat → Bool
  | a :: b :: r => ancB ops ops.size b a && decide (a < b) && ordOk ops (b :: r)
  | _ => true
def early (ops : Array Oper) (ks : List Nat) (i : Nat) : Bool := match ks with | e :: _ => ancB ops ops.size e i | [] => true
def drawE (P : Program) (M : List Nat) (ops : Array Oper) (ks el : List Nat) (R : St → Prop) (s0 : St) : Nat → List Oper → List SV → St → (List SV → St → Prop) → Prop
  | _,[],env,st,K => K env st
  | i,o :: r,env,st,K =>
    if ks.contains i then ∃ X s',effSpec P M o (onlyAt (opTmps o.op.operands.toList) 0 env) st (fun x s => x = X ∧ s = s') ∧ o.guard = none ∧ R s' ∧ drawE P M ops ks el R s0 (i + 1) r (putE env o.dst X) s' K
    else ∃ X,(∀ s,(if el.contains i then s = s0 else R s) → d1Spec P M (ops.toList.map (·.dst)) o env s (fun x => x = X)) ∧ drawE P M ops ks el R s0 (i + 1) r (putE env o.dst X) st K
def EffFact (P : Program) (ops : Array Oper) (s s' : St) (o : Oper) (E : List SV) (X : SV) : Prop :=
  ∀ σ w (a : Act) (env : List SV),Inv s σ w → RepEnv s σ w env a.tmps → (∀ t ∈ looks ops o,env.getD t .any = E.getD t .any) → env.length = E.length →
    o.guard = none ∧ ∃ Q0 : Exit → Act → World → Prop,(∀ e a w,¬ Q0 e a w) ∧
      o.wp P a w (fun a' w' => ∃ v σ',a' = a.put o.dst v ∧ Inv s' σ' w' ∧ Ext s σ w s' σ' w' ∧ Rep s' σ' w' X v) Q0
theorem chainE {M : List Nat} {ops : Array Oper} {ks el : List Nat} {R : St → Prop} {s0 : St} {K : List SV → St → Prop} : ∀ (n : Nat) (l : List Oper) (env : List SV) (st : St),ops.toList.drop n = l → R st →
    drawE P M ops ks el R s0 n l env st K →
    ∃ (F : Nat → List SV) (G : Nat → St) (X : Nat → SV),F n = env ∧ G n = st ∧ (∀ i,n ≤ i → R (G i)) ∧
      (∀ i o,n ≤ i → ops[i]? = some o → F (i + 1) = putE (F i) o.dst (X i) ∧
        (if ks.contains i then EffFact P ops (G i) (G (i + 1)) o (F i) (X i) else G (i + 1) = G i ∧ ∀ s,(if el.contains i then s = s0 else R s) → OpFact P ops s o (F i) (X i))) ∧
      K (F (n + l.length)) (G (n + l.length))
  | n,[],env,st,hl,hr,h => by
    refine ⟨fun _ => env,fun _ => st,fun _ => .any,rfl,rfl,fun _ _ => hr,fun i o hi ho => ?_,h⟩
    have h1 := lt_of_some ho
    have h2 := congrArg List.length hl
    simp at h2
    omega
  | n,o :: r,env,st,hl,hrs,h => by
    have ho : ops[n]? = some o := by
      have : (ops.toList.drop n)[0]? = some o := by rw [hl]; rfl
      rw [List.getElem?_drop,Nat.add_zero,Array.getElem?_toList] at this
      exact this
    have hr : ops.toList.drop (n + 1) = r := by rw [← List.drop_drop,hl]; rfl
    have fin : ∀ (X0 : SV) (s' : St),R s' → drawE P M ops ks el R s0 (n + 1) r (putE env o.dst X0) s' K →
        (if ks.contains n then EffFact P ops st s' o env X0 else s' = st ∧ ∀ s,(if el.contains n then s = s0 else R s) → OpFact P ops s o env X0) →
        ∃ (F : Nat → List SV) (G : Nat → St) (X : Nat → SV),F n = env ∧ G n = st ∧ (∀ i,n ≤ i → R (G i)) ∧
          (∀ i o,n ≤ i → ops[i]? = some o → F (i + 1) = putE (F i) o.dst (X i) ∧
            (if ks.contains i then EffFact P ops (G i) (G (i + 1)) o (F i) (X i) else G (i + 1) = G i ∧ ∀ s,(if el.contains i then s = s0 else R s) → OpFact P ops s o (F i) (X i))) ∧
          K (F (n + (o :: r).length)) (G (n + (o :: r).length)) := by
      intro X0 s' hrs' hrest hfact
      obtain ⟨F,G,X,f1,f2,f3,f4,f5⟩ := chainE (n + 1) r _ _ hr hrs' hrest
      refine ⟨fun i => if i = n then env else F i,fun i => if i = n then st else G i,fun i => if i = n then X0 else X i,by simp,by simp,fun i hi => ?_,fun i p hi hp => ?_,?_⟩
      · by_cases e : i = n
        · simp only [if_pos e]; exact hrs
        · simp only [if_neg e]; exact f3 i (by omega)
      · by_cases e : i = n
        · subst e
          rw [ho] at hp; cases hp
          simp only [if_true,show ¬ i + 1 = i by omega,if_false]
          refine ⟨f1,?_⟩
          rw [f2]
          exact hfact
        · simp only [if_neg e,show ¬ i + 1 = n by omega,if_false]
          exact f4 i p (by omega) hp
      · simp only [List.length_cons]
        rw [if_neg (by omega),if_neg (by omega),show n + (r.length + 1) = n + 1 + r.length by omega]
        exact f5
    simp only [drawE] at h
    by_cases hk : ks.contains n = true
    · rw [if_pos hk] at h
      obtain ⟨X0,s',h1,h2,h3,h4⟩ := h
      refine fin X0 s' h3 h4 ?_
      rw [if_pos hk]
      intro σ w a env' hI hR hs hlen
      refine ⟨h2,fun _ _ _ => False,fun _ _ _ h => h,?_⟩
      refine upon_mono ?_ (fun _ _ _ h => h) (aop_eff h1 σ w a hI (rep_only hR hs hlen))
      rintro a' w' ⟨v,x,s1,σ',rfl,⟨rfl,rfl⟩,hI',hr',hX⟩
      exact ⟨v,σ',rfl,hI',hX,hr'⟩
    · rw [if_neg hk] at h
      obtain ⟨X0,h1,h2⟩ := h
      refine fin X0 st hrs h2 ?_
      rw [if_neg hk]
      refine ⟨rfl,fun s hs => ?_⟩
      obtain ⟨X1,g1,rfl⟩ := fact_of (h1 s hs)
      exact g1
theorem anc_listed {ops : Array Oper} {listed : Array Bool} (hcl : ∀ i,listed.getD i false = true → ∀ p,ops[i]? = some p → ∀ e,e ∈ p.after.toList → Region.binds .any e = true → listed.getD e.on false = true) :
    ∀ (n i j : Nat),(∀ p,ops[i]? = some p → ∀ e,e ∈ p.after.toList → Region.binds .any e = true → listed.getD e.on false = true) → ancB ops n i j = true → listed.getD j false = true
  | 0,i,j,_,h => by cases h
  | n + 1,i,j,hi,h => by
    simp only [ancB] at h
    split at h
    · rename_i o ho
      rw [List.any_eq_true] at h
      obtain ⟨e,he1,he2⟩ := h
      simp only [Bool.and_eq_true,Bool.or_eq_true,beq_iff_eq] at he2
      have hl := hi o ho e he1 he2.1
      rcases he2.2 with rfl | h2
      · exact hl
      · exact anc_listed hcl n e.on j (hcl e.on hl) h2
    · cases h
theorem ord_tail {ops : Array Oper} {a : Nat} {r : List Nat} (h : ordOk ops (a :: r) = true) : ordOk ops r = true := by
  cases r with
  | nil => rfl
  | cons b r => simp only [ordOk,Bool.and_eq_true] at h; exact h.2
theorem ord_lt {ops : Array Oper} : ∀ {r : List Nat} {a : Nat},ordOk ops (a :: r) = true → ∀ k ∈ r,a < k
  | [],a,_,k,hk => by cases hk
  | b :: r,a,h,k,hk => by
    simp only [ordOk,Bool.and_eq_true,decide_eq_true_eq] at h
    cases hk with
    | head => exact h.1.2
    | tail _ hk => exact Nat.lt_trans h.1.2 (ord_lt h.2 k hk)
theorem ord_prefix {ops : Array Oper} {listed : Array Bool} (hcl : ∀ i,listed.getD i false = true → ∀ p,ops[i]? = some p → ∀ e,e ∈ p.after.toList → Region.binds .any e = true → listed.getD e.on false = true) :
    ∀ {r : List Nat} {a : Nat},ordOk ops (a :: r) = true → ∀ k ∈ r,listed.getD k false = true → listed.getD a false = true
  | [],a,_,k,hk,_ => by cases hk
  | b :: r,a,h,k,hk,hl => by
    have h' := h
    simp only [ordOk,Bool.and_eq_true] at h
    have hb : listed.getD b false = true := by
      cases hk with
      | head => exact hl
      | tail _ hk => exact ord_prefix hcl h.2 k hk hl
    exact anc_listed hcl _ b a (hcl b hb) h.1.1
def nxt (ks : List Nat) (listed : Array Bool) (n : Nat) : Nat := (ks.find? fun e => !listed.getD e false).getD n
theorem nxt_eff {ops : Array Oper} {listed : Array Bool} (n : Nat) (hcl : ∀ i,listed.getD i false = true → ∀ p,ops[i]? = some p → ∀ e,e ∈ p.after.toList → Region.binds .any e = true → listed.getD e.on false = true)
    {i : Nat} (hi : ∀ p,ops[i]? = some p → ∀ e,e ∈ p.after.toList → Region.binds .any e = true → listed.getD e.on false = true) (hnl : listed.getD i false = false) :
    ∀ {ks : List Nat},ordOk ops ks = true → i ∈ ks → nxt ks listed n = i
  | [],_,h => by cases h
  | a :: r,ho,h => by
    by_cases e : a = i
    · subst e; simp only [nxt,List.find?_cons,hnl,Bool.not_false]; rfl
    · have hr : i ∈ r := by
        cases h with
        | head => exact absurd rfl e
        | tail _ h => exact h
      have ih := nxt_eff n hcl hi hnl (ord_tail ho) hr
      have ha : listed.getD a false = true := by
        cases r with
        | nil => cases hr
        | cons b r =>
          have ho' := ho
          simp only [ordOk,Bool.and_eq_true] at ho
          by_cases eb : b = i
          · subst eb; exact anc_listed hcl _ b a hi ho.1.1
          · have hb : listed.getD b false = true := by
              cases hv : listed.getD b false with
              | true => rfl
              | false =>
                exfalso
                simp only [nxt,List.find?_cons,hv,Bool.not_false] at ih
                exact eb ih
            exact anc_listed hcl _ b a (hcl b hb) ho.1.1
      simp only [nxt,List.find?_cons,ha,Bool.not_true] at ih ⊢
      exact ih
theorem nxt_none {listed : Array Bool} {n : Nat} {ks : List Nat} (h : ∀ k ∈ ks,listed.getD k false = true) : nxt ks listed n = n := by
  unfold nxt
  rw [List.find?_eq_none.2 (fun k hk => by simp only [h k hk]; decide)]; rfl
theorem nxt_spec {ops : Array Oper} {listed : Array Bool} {n : Nat} : ∀ {ks : List Nat},ordOk ops ks = true → (∀ k ∈ ks,k < n) → nxt ks listed n ≤ n ∧ (∀ k ∈ ks,k < nxt ks listed n → listed.getD k false = true) ∧
    (nxt ks listed n = n ∨ (nxt ks listed n ∈ ks ∧ listed.getD (nxt ks listed n) false = false))
  | [],_,_ => ⟨Nat.le_of_eq rfl,fun k hk _ => (by cases hk),.inl rfl⟩
  | a :: r,ho,hn => by
    cases hv : listed.getD a false with
    | false =>
      have e : nxt (a :: r) listed n = a := by simp only [nxt,List.find?_cons,hv,Bool.not_false]; rfl
      rw [e]
      refine ⟨Nat.le_of_lt (hn a (by simp)),fun k hk hlt => ?_,.inr ⟨by simp,hv⟩⟩
      cases hk with
      | head => omega
      | tail _ hk => have := ord_lt ho k hk; omega
    | true =>
      have e : nxt (a :: r) listed n = nxt r listed n := by simp only [nxt,List.find?_cons,hv,Bool.not_true]
      rw [e]
      obtain ⟨h1,h2,h3⟩ := nxt_spec (listed := listed) (ord_tail ho) (fun k hk => hn k (by simp [hk]))
      refine ⟨h1,fun k hk hlt => ?_,h3.imp id fun h => ⟨by simp [h.1],h.2⟩⟩
      cases hk with
      | head => exact hv
      | tail _ hk => exact h2 k hk hlt
def alwJ (ops : Array Oper) (ks : List Nat) (i j : Nat) : Bool := (ks.all fun k => !(decide (k < j)) || !ancB ops ops.size k i) && !ancB ops ops.size i j
theorem awp_chain2 (ks : List Nat) {id : Nat} {ops : Array Oper} {Q : Exit → List SV → St → Prop} {env : List SV} {st : St} (hm : P.follows .mixedOrders = true) (hf : flowOk ops = true)
    (hks : ordOk ops ks = true) (hkn : ks.all (· < ops.size) = true)
    (h : ∃ (F : Nat → List SV) (G : Nat → St) (X : Nat → SV),F 0 = env ∧ G 0 = st ∧
      (∀ i o,0 ≤ i → ops[i]? = some o → F (i + 1) = putE (F i) o.dst (X i) ∧
        (if ks.contains i then EffFact P ops (G i) (G (i + 1)) o (F i) (X i) else G (i + 1) = G i ∧ ∀ j,(j = ops.size ∨ j ∈ ks) → alwJ ops ks i j = true → OpFact P ops (G j) o (F i) (X i))) ∧
      Q .normal (F (0 + ops.toList.length)) (G (0 + ops.toList.length))) : AWp P (.region id ops true) Q env st := by
  intro σ w a hI hR D hd
  obtain ⟨F,G,X,f1,gg1,f2',f3⟩ := h
  simp only [Nat.zero_add,Array.length_toList] at f3
  have f2 : ∀ i o,0 ≤ i → ops[i]? = some o → True ∧ F (i + 1) = putE (F i) o.dst (X i) := fun i o hi ho => ⟨trivial,(f2' i o hi ho).1⟩
  have hkn' : ∀ k ∈ ks,k < ops.size := by
    intro k hk
    rw [List.all_eq_true] at hkn
    simpa using hkn k hk
  have gconst : ∀ d a,a + d ≤ ops.size → (∀ k ∈ ks,¬ (a ≤ k ∧ k < a + d)) → G (a + d) = G a := by
    intro d
    induction d with
    | zero => intro a _ _; rfl
    | succ d ih =>
      intro a ha hno
      have h1 := ih a (by omega) (fun k hk hc => hno k hk (by omega))
      have hp : ops[a + d]? = some ops[a + d] := by simp [show a + d < ops.size by omega]
      have h2 := (f2' (a + d) _ (Nat.zero_le _) hp).2
      rw [if_neg (by
        intro hc
        exact hno (a + d) (by simpa using hc) (by omega))] at h2
      rw [show a + (d + 1) = a + d + 1 by omega,h2.1,h1]
  have gsame : ∀ a b,a ≤ b → b ≤ ops.size → (∀ k ∈ ks,¬ (a ≤ k ∧ k < b)) → G b = G a := by
    intro a b hab hb hno
    obtain ⟨d,rfl⟩ := Nat.exists_eq_add_of_le hab
    exact gconst d a hb hno
  have hflow : ∀ i j p q,ops[i]? = some p → ops[j]? = some q → i ≠ j → ∀ t,q.dst = some t → (t ∈ looks ops p → if j < i then dirEdge p j = true else dirEdge q i = true) ∧ p.dst ≠ some t := by
    intro i j p q hp hq hne t ht
    have h1 := lt_of_some hp
    have h2 := lt_of_some hq
    unfold flowOk at hf
    rw [List.all_eq_true] at hf
    have h3 := hf i (by simpa using h1)
    simp only [Bool.and_eq_true,List.all_eq_true] at h3
    have h4 := h3.1 j (by simpa using h2)
    unfold flowAt at h4
    rw [hp,hq] at h4
    simp only [ht,Bool.or_eq_true,beq_iff_eq,Bool.and_eq_true,Bool.not_eq_true',bne_iff_ne,ne_eq] at h4
    rcases h4 with h4 | ⟨h4,h5⟩
    · exact absurd h4 hne
    · refine ⟨fun hlk => ?_,h5⟩
      rcases h4 with h4 | h4
      · simp [hlk] at h4
      · split <;> rename_i hji <;> simpa [hji] using h4
  have hback : ∀ i p,ops[i]? = some p → ∀ e,e ∈ p.after.toList → Region.binds .any e = true → e.on < i := by
    intro i p hp e he hb
    have h1 := lt_of_some hp
    unfold flowOk at hf
    rw [List.all_eq_true] at hf
    have h3 := hf i (by simpa using h1)
    simp only [Bool.and_eq_true,hp,Option.map_some,Option.getD_some,List.all_eq_true] at h3
    have h4 := h3.2 e he
    simpa [hb] using h4
  have flen : ∀ i,i ≤ ops.size → (F i).length = env.length := by
    intro i
    induction i with
    | zero => intro _; rw [f1]
    | succ i ih =>
      intro hi
      have hp : ops[i]? = some ops[i] := by simp [show i < ops.size by omega]
      rw [(f2 i _ (Nat.zero_le _) hp).2,length_putE,ih (by omega)]
  have fget : ∀ i,i ≤ ops.size → ∀ t,t < env.length → (∀ j,j < i → writes ops j t = true → (F i).getD t .any = X j) ∧ ((∀ j,j < i → writes ops j t = false) → (F i).getD t .any = env.getD t .any) := by
    intro i
    induction i with
    | zero => intro _ t ht; exact ⟨fun j hj => absurd hj (Nat.not_lt_zero _),fun _ => by rw [f1]⟩
    | succ i ih =>
      intro hi t ht
      obtain ⟨ih1,ih2⟩ := ih (by omega) t ht
      have hp : ops[i]? = some ops[i] := by simp [show i < ops.size by omega]
      have he := (f2 i _ (Nat.zero_le _) hp).2
      have hg : (F (i + 1)).getD t .any = if ops[i].dst = some t then X i else (F i).getD t .any := by rw [he]; exact putE_get (by rw [flen i (by omega)]; exact ht)
      have hwi : writes ops i t = true ↔ ops[i].dst = some t := by simp [writes,hp]
      refine ⟨fun j hj hw => ?_,fun hno => ?_⟩
      · rw [hg]
        by_cases c : ops[i].dst = some t
        · rw [if_pos c]
          by_cases e : j = i
          · rw [e]
          · have hjl : j < ops.size := by omega
            have hq : ops[j]? = some ops[j] := by simp [hjl]
            have hjd : ops[j].dst = some t := by simpa [writes,hq] using hw
            exact absurd c (hflow i j _ _ hp hq (by omega) t hjd).2
        · rw [if_neg c]
          have e : j ≠ i := by rintro rfl; exact c (hwi.1 hw)
          exact ih1 j (by omega) hw
      · rw [hg,if_neg (fun c => by have := hno i (by omega); rw [hwi.2 c] at this; cases this)]
        exact ih2 fun j hj => hno j (by omega)
  let Inv' : Array Bool → Act → World → Prop := fun listed a' w' => ∃ σ',Inv (G (nxt ks listed ops.size)) σ' w' ∧ Ext st σ w (G (nxt ks listed ops.size)) σ' w' ∧ a'.defers = D ∧ listed.size = ops.size ∧
    RepEnv (G (nxt ks listed ops.size)) σ' w' (mixE ops listed env (F ops.size)) a'.tmps ∧ ∀ i,listed.getD i false = true → ∀ p,ops[i]? = some p → ∀ e,e ∈ p.after.toList → Region.binds .any e = true → listed.getD e.on false = true
  have key : ∀ (fuel : Nat) (listed : Array Bool) (a' : Act) (w' : World),((List.range ops.size).filter fun j => !listed.getD j false).length = fuel → Inv' listed a' w' →
      wpAny P .any ops (fun e a' w' => Post D (Q e) st σ w a' w') fuel listed a' w' := by
    intro fuel
    induction fuel with
    | zero =>
      intro listed a' w' hc hI'
      obtain ⟨σ',i1,i2,i3,i4,i5,i6⟩ := hI'
      have hall : ∀ j,j < ops.size → listed.getD j false = true := by
        intro j hj
        have h0 : (List.range ops.size).filter (fun j => !listed.getD j false) = [] := List.eq_nil_of_length_eq_zero hc
        rw [List.filter_eq_nil_iff] at h0
        simpa using h0 j (by simpa using hj)
      have hnx : nxt ks listed ops.size = ops.size := nxt_none fun k hk => hall k (hkn' k hk)
      rw [hnx] at i1 i2 i5
      refine ⟨?_,i3,mixE ops listed env (F ops.size),G ops.size,σ',?_,i1,i5,i2⟩
      · unfold Region.ready
        rw [List.filter_eq_nil_iff]
        intro j hj
        have hj' : j < ops.size := by simpa using hj
        have h1 := hall j hj'
        have : listed.getD j true = true := by
          rw [Array.getD_eq_getD_getElem?] at h1 ⊢
          rw [Array.getElem?_eq_getElem (by omega)] at h1 ⊢
          exact h1
        simp [this]
      · have e : mixE ops listed env (F ops.size) = F ops.size := by
          apply List.ext_getElem?
          intro t
          by_cases ht : t < env.length
          · have h1 := getD_mixE (ops := ops) (listed := listed) (eN := F ops.size) ht
            have hl1 : t < (mixE ops listed env (F ops.size)).length := by rw [length_mixE]; exact ht
            have hl2 : t < (F ops.size).length := by rw [flen _ (Nat.le_refl _)]; exact ht
            rw [List.getElem?_eq_getElem hl1,List.getElem?_eq_getElem hl2]
            simp only [List.getD_eq_getElem?_getD,List.getElem?_eq_getElem hl1,List.getElem?_eq_getElem hl2,Option.getD_some] at h1
            rw [h1]
            split
            · rfl
            · rename_i hno
              have h2 := (fget ops.size (Nat.le_refl _) t ht).2 (fun j hj => by
                cases hw : writes ops j t with
                | false => rfl
                | true =>
                  exfalso
                  apply hno
                  unfold wr
                  rw [List.any_eq_true]
                  exact ⟨j,by simpa using hj,by rw [hall j hj,hw]; rfl⟩)
              simp only [List.getD_eq_getElem?_getD,List.getElem?_eq_getElem hl2,Option.getD_some] at h2
              rw [h2]
          · rw [List.getElem?_eq_none (by rw [length_mixE]; omega),List.getElem?_eq_none (by rw [flen _ (Nat.le_refl _)]; omega)]
        rw [e]
        exact f3
    | succ fuel ih =>
      intro listed a' w' hc hI'
      obtain ⟨σ',i1,i2,i3,i4,i5,i6⟩ := hI'
      have hready : ∀ i,i ∈ Region.ready .any ops listed ↔ i < ops.size ∧ listed.getD i true = false ∧ ∀ p,ops[i]? = some p → ∀ e,e ∈ p.after.toList → Region.binds .any e = true → listed.getD e.on false = true := by
        intro i
        unfold Region.ready
        rw [List.mem_filter]
        constructor
        · rintro ⟨h1,h2⟩
          have h1' : i < ops.size := by simpa using h1
          simp only [Bool.and_eq_true,Bool.not_eq_true'] at h2
          refine ⟨h1',h2.1,fun p hp e he hb => ?_⟩
          have h3 := h2.2
          rw [hp] at h3
          simp only [Option.map_some,Option.getD_some,Array.all_eq_true'] at h3
          have := h3 e (by simpa using he)
          simpa [hb] using this
        · rintro ⟨h1,h2,h3⟩
          refine ⟨by simpa using h1,?_⟩
          have hp : ops[i]? = some ops[i] := by simp [h1]
          simp only [h2,hp,Option.map_some,Option.getD_some,Bool.not_false,Bool.true_and,Array.all_eq_true']
          intro e he
          cases hb : Region.binds .any e with
          | false => rfl
          | true => simpa using h3 _ hp e (by simpa using he) hb
      refine ⟨fun hnil => ?_,fun i hi => ?_⟩
      · -- the least one that is not listed is ready
        exfalso
        have hex : ∃ j,j < ops.size ∧ listed.getD j false = false := by
          have hne : (List.range ops.size).filter (fun j => !listed.getD j false) ≠ [] := by intro h0; rw [h0] at hc; cases hc
          obtain ⟨j,hj⟩ := List.exists_mem_of_ne_nil _ hne
          rw [List.mem_filter] at hj
          exact ⟨j,by simpa using hj.1,by simpa using hj.2⟩
        obtain ⟨j,hj1,hj2⟩ := hex
        have least : ∀ n,∀ j,j ≤ n → j < ops.size → listed.getD j false = false → ∃ i,i < ops.size ∧ listed.getD i false = false ∧ ∀ k,k < i → listed.getD k false = true := by
          intro n
          induction n with
          | zero =>
            intro j hj h1 h2
            exact ⟨j,h1,h2,fun k hk => by omega⟩
          | succ n ihn =>
            intro j hj h1 h2
            by_cases c : ∃ k,k < j ∧ listed.getD k false = false
            · obtain ⟨k,hk1,hk2⟩ := c
              exact ihn k (by omega) (by omega) hk2
            · refine ⟨j,h1,h2,fun k hk => ?_⟩
              cases hv : listed.getD k false with
              | true => rfl
              | false => exact absurd ⟨k,hk,hv⟩ c
        obtain ⟨i,hi1,hi2,hi3⟩ := least j j (Nat.le_refl _) hj1 hj2
        have : i ∈ Region.ready .any ops listed := (hready i).2 ⟨hi1,by
          rw [Array.getD_eq_getD_getElem?] at hi2 ⊢
          rw [Array.getElem?_eq_getElem (by omega)] at hi2 ⊢
          exact hi2,fun p hp e he hb => hi3 _ (hback i p hp e he hb)⟩
        rw [hnil] at this
        cases this
      · obtain ⟨hi1,hi2,hi3⟩ := (hready i).1 hi
        have hp : ops[i]? = some ops[i] := by simp [hi1]
        have hnl : listed.getD i false = false := by
          rw [Array.getD_eq_getD_getElem?] at hi2 ⊢
          rw [Array.getElem?_eq_getElem (by omega)] at hi2 ⊢
          exact hi2
        obtain ⟨hnext,hfact⟩ := f2' i _ (Nat.zero_le _) hp
        have hagree : ∀ t ∈ looks ops ops[i],(mixE ops listed env (F ops.size)).getD t .any = (F i).getD t .any := by
          intro t ht
          by_cases hlt : t < env.length
          · rw [getD_mixE hlt]
            obtain ⟨g1,g2⟩ := fget i (by omega) t hlt
            obtain ⟨gN1,gN2⟩ := fget ops.size (Nat.le_refl _) t hlt
            by_cases c : ∃ j,j < i ∧ writes ops j t = true
            · obtain ⟨j,hj,hw⟩ := c
              have hjl : j < ops.size := by omega
              have hq : ops[j]? = some ops[j] := by simp [hjl]
              have hjd : ops[j].dst = some t := by simpa [writes,hq] using hw
              have hedge := (hflow i j _ _ hp hq (by omega) t hjd).1 ht
              rw [if_pos hj] at hedge
              have hlj : listed.getD j false = true := by
                unfold dirEdge at hedge
                rw [List.any_eq_true] at hedge
                obtain ⟨e,he1,he2⟩ := hedge
                simp only [Bool.and_eq_true,beq_iff_eq] at he2
                have := hi3 _ hp e he1 he2.1
                rwa [he2.2] at this
              rw [if_pos (by unfold wr; rw [List.any_eq_true]; exact ⟨j,by simpa using hjl,by rw [hlj,hw]; rfl⟩),g1 j hj hw,gN1 j hjl hw]
            · rw [g2 fun j hj => by
                cases hw : writes ops j t with
                | false => rfl
                | true => exact absurd ⟨j,hj,hw⟩ c]
              rw [if_neg]
              intro hwr
              unfold wr at hwr
              rw [List.any_eq_true] at hwr
              obtain ⟨j,hj1,hj2⟩ := hwr
              simp only [Bool.and_eq_true] at hj2
              have hjl : j < ops.size := by simpa using hj1
              have hq : ops[j]? = some ops[j] := by simp [hjl]
              have hjd : ops[j].dst = some t := by simpa [writes,hq] using hj2.2
              have hne : i ≠ j := by rintro rfl; rw [hj2.1] at hnl; cases hnl
              have hnji : ¬ j < i := fun hji => c ⟨j,hji,hj2.2⟩
              have hedge := (hflow i j _ _ hp hq hne t hjd).1 ht
              rw [if_neg hnji] at hedge
              unfold dirEdge at hedge
              rw [List.any_eq_true] at hedge
              obtain ⟨e,he1,he2⟩ := hedge
              simp only [Bool.and_eq_true,beq_iff_eq] at he2
              have := i6 j hj2.1 _ hq e he1 he2.1
              rw [he2.2,hnl] at this
              cases this
          · rw [List.getD_eq_getElem?_getD,List.getD_eq_getElem?_getD,List.getElem?_eq_none (by rw [length_mixE]; omega),List.getElem?_eq_none (by rw [flen i (by omega)]; omega)]
        have hns := nxt_spec (listed := listed) hks hkn'
        have hdone : ∀ (v : Value) (σ2 : Sig) (w2 : World) (s2 : St),s2 = G (nxt ks (listed.setIfInBounds i true) ops.size) → Inv s2 σ2 w2 → Ext (G (nxt ks listed ops.size)) σ' w' s2 σ2 w2 → Rep s2 σ2 w2 (X i) v →
            Inv' (listed.setIfInBounds i true) (a'.put ops[i].dst v) w2 := by
          intro v σ2 w2 s2 es2 hI2 hX2 hr2
          subst es2
          have gl : ∀ k,(listed.setIfInBounds i true).getD k false = if k = i then true else listed.getD k false := by
            intro k
            rw [Array.getD_eq_getD_getElem?,Array.getD_eq_getD_getElem?]
            by_cases e : i = k
            · subst e; simp [show i < listed.size by omega]
            · rw [Array.getElem?_setIfInBounds_ne e,if_neg (fun h => e h.symm)]
          have hRE := i5.ext hX2
          refine ⟨σ2,hI2,i2.trans hX2,by rw [put_defers]; exact i3,by simpa using i4,⟨?_,fun t ht => ?_⟩,fun k hk p hp' e he hb => ?_⟩
          · rw [length_mixE]
            have := hRE.1
            rw [length_mixE] at this
            cases ops[i].dst with
            | none => exact this
            | some d => simpa [Act.put] using this
          · rw [length_mixE] at ht
            have hput := rep_put hRE ops[i].dst hr2
            have h1 := hput.2 t (by rw [length_putE,length_mixE]; exact ht)
            rw [putE_get (by rw [length_mixE]; exact ht)] at h1
            have e : (mixE ops (listed.setIfInBounds i true) env (F ops.size)).getD t .any = if ops[i].dst = some t then X i else (mixE ops listed env (F ops.size)).getD t .any := by
              rw [getD_mixE ht,getD_mixE ht]
              obtain ⟨gN1,gN2⟩ := fget ops.size (Nat.le_refl _) t ht
              by_cases c : ops[i].dst = some t
              · rw [if_pos c,if_pos]
                · exact gN1 i hi1 (by simp [writes,hp,c])
                · unfold wr
                  rw [List.any_eq_true]
                  exact ⟨i,by simpa using hi1,by rw [gl,if_pos rfl]; simp [writes,hp,c]⟩
              · rw [if_neg c]
                have e2 : wr ops (listed.setIfInBounds i true) t = wr ops listed t := by
                  unfold wr
                  apply Bool.eq_iff_iff.2
                  rw [List.any_eq_true,List.any_eq_true]
                  constructor
                  · rintro ⟨j,hj1,hj2⟩
                    simp only [Bool.and_eq_true] at hj2
                    refine ⟨j,hj1,?_⟩
                    rw [gl] at hj2
                    by_cases ej : j = i
                    · subst ej; exact absurd (by simpa [writes,hp] using hj2.2) c
                    · rw [if_neg ej] at hj2; simp [hj2.1,hj2.2]
                  · rintro ⟨j,hj1,hj2⟩
                    simp only [Bool.and_eq_true] at hj2
                    refine ⟨j,hj1,?_⟩
                    rw [gl]
                    split <;> simp [hj2.1,hj2.2]
                rw [e2]
            rw [e]
            exact h1
          · rw [gl] at hk ⊢
            split
            · rfl
            · by_cases ek : k = i
              · subst ek
                rw [hp] at hp'; cases hp'
                exact hi3 _ hp e he hb
              · rw [if_neg ek] at hk
                exact i6 k hk p hp' e he hb
        have hcount : ((List.range ops.size).filter fun j => !(listed.setIfInBounds i true).getD j false).length = fuel := by
          have h1 : ((List.range ops.size).filter fun j => !listed.getD j false) = (List.range ops.size).filter fun j => !listed.getD j false := rfl
          have hperm : ∀ l : List Nat,l.Nodup → i ∈ l → (l.filter fun j => !listed.getD j false).length = (l.filter fun j => !(listed.setIfInBounds i true).getD j false).length + 1 := by
            intro l
            have gl : ∀ k,(listed.setIfInBounds i true).getD k false = if k = i then true else listed.getD k false := by
              intro k
              rw [Array.getD_eq_getD_getElem?,Array.getD_eq_getD_getElem?]
              by_cases e : i = k
              · subst e; simp [show i < listed.size by omega]
              · rw [Array.getElem?_setIfInBounds_ne e,if_neg (fun h => e h.symm)]
            induction l with
            | nil => intro _ h; cases h
            | cons x r ihr =>
              intro hnd hmem
              rw [List.nodup_cons] at hnd
              by_cases e : x = i
              · subst e
                have hrest : (r.filter fun j => !listed.getD j false) = r.filter fun j => !(listed.setIfInBounds x true).getD j false := by
                  apply List.filter_congr
                  intro j hj
                  rw [gl,if_neg (by rintro rfl; exact hnd.1 hj)]
                rw [List.filter_cons,List.filter_cons,if_pos (by rw [hnl]; rfl),if_neg (by rw [gl,if_pos rfl]; decide),hrest]
                simp
              · have hm : i ∈ r := by
                  cases hmem with
                  | head => exact absurd rfl e
                  | tail _ h => exact h
                have := ihr hnd.2 hm
                simp only [List.filter_cons,gl x,if_neg e]
                split <;> simp only [List.length_cons,this]
          have := hperm _ List.nodup_range (by simpa using hi1)
          omega
        have gl : ∀ k,(listed.setIfInBounds i true).getD k false = if k = i then true else listed.getD k false := by
          intro k
          rw [Array.getD_eq_getD_getElem?,Array.getD_eq_getD_getElem?]
          by_cases e : i = k
          · subst e; simp [show i < listed.size by omega]
          · rw [Array.getElem?_setIfInBounds_ne e,if_neg (fun h => e h.symm)]
        have hlook := hagree
        unfold wpOp
        rw [hp]
        simp only
        by_cases hk : ks.contains i = true
        · -- one that turns the objects
          have hki : i ∈ ks := by simpa using hk
          rw [if_pos hk] at hfact
          have hnx : nxt ks listed ops.size = i := nxt_eff ops.size i6 hi3 hnl hks hki
          have hnx2 : G (nxt ks (listed.setIfInBounds i true) ops.size) = G (i + 1) := by
            have hns2 := nxt_spec (listed := listed.setIfInBounds i true) hks hkn'
            have hge : i + 1 ≤ nxt ks (listed.setIfInBounds i true) ops.size := by
              rcases hns2.2.2 with h | ⟨h1,h2⟩
              · omega
              · rw [gl] at h2
                by_cases e : nxt ks (listed.setIfInBounds i true) ops.size = i
                · rw [if_pos e] at h2; cases h2
                · rw [if_neg e] at h2
                  rcases Nat.lt_or_ge (nxt ks (listed.setIfInBounds i true) ops.size) i with hlt | hge
                  · have := hns.2.1 _ h1 (by omega)
                    rw [h2] at this; cases this
                  · omega
            refine gsame _ _ hge hns2.1 fun k hkk hc => ?_
            have h1 := hns2.2.1 k hkk hc.2
            rw [gl,if_neg (by omega)] at h1
            have : ∀ {l : List Nat},ordOk ops l = true → i ∈ l → k ∈ l → listed.getD i false = true := by
              intro l
              induction l with
              | nil => intro _ h; cases h
              | cons a r ihl =>
                intro ho hi' hk'
                by_cases ea : a = i
                · subst ea
                  have hkr : k ∈ r := by
                    cases hk' with
                    | head => omega
                    | tail _ h => exact h
                  exact ord_prefix i6 ho k hkr h1
                · have hir : i ∈ r := by
                    cases hi' with
                    | head => exact absurd rfl ea
                    | tail _ h => exact h
                  by_cases ek : a = k
                  · subst ek
                    have := ord_lt ho i hir
                    omega
                  · have hkr : k ∈ r := by
                      cases hk' with
                      | head => exact absurd rfl ek
                      | tail _ h => exact h
                    exact ihl (ord_tail ho) hir hkr
            have hcon := this hks hki hkk
            rw [hnl] at hcon; cases hcon
          rw [hnx] at i1 i2 i5 hdone
          obtain ⟨hgn,Q0,hq0,hwp⟩ := hfact σ' w' a' _ i1 i5 hlook (by rw [length_mixE,flen i (by omega)])
          have hwt : Region.wanted ops[i] (yielded ops a'.tmps) = true := by simp [Region.wanted,hgn]
          simp only [hwt,if_true]
          refine .inl (upon_mono ?_ (fun e a w h => absurd h (hq0 e a w)) hwp)
          rintro a2 w2 ⟨v,σ2,rfl,hI2,hX2,hr2⟩
          exact ih _ _ _ hcount (hdone v σ2 w2 _ hnx2.symm hI2 hX2 hr2)
        · rw [if_neg hk] at hfact
          have hki : i ∉ ks := by simpa using hk
          have hnx : nxt ks (listed.setIfInBounds i true) ops.size = nxt ks listed ops.size := by
            unfold nxt
            have : ∀ l : List Nat,i ∉ l → (l.find? fun e => !(listed.setIfInBounds i true).getD e false) = l.find? fun e => !listed.getD e false := by
              intro l
              induction l with
              | nil => intro _; rfl
              | cons a r ihl =>
                intro hni
                have h1 : a ≠ i := fun e => hni (by simp [e])
                rw [List.find?_cons,List.find?_cons,gl,if_neg h1,ihl (fun h => hni (by simp [h]))]
            rw [this ks hki]
          have hst : alwJ ops ks i (nxt ks listed ops.size) = true := by
            unfold alwJ
            simp only [Bool.and_eq_true,List.all_eq_true,Bool.or_eq_true,Bool.not_eq_true',decide_eq_false_iff_not]
            refine ⟨fun k hk => ?_,?_⟩
            · by_cases c : k < nxt ks listed ops.size
              · right
                cases ha : ancB ops ops.size k i with
                | false => rfl
                | true =>
                  have := anc_listed i6 _ k i (i6 k (hns.2.1 k hk c)) ha
                  rw [hnl] at this; cases this
              · exact .inl c
            · cases ha : ancB ops ops.size i (nxt ks listed ops.size) with
              | false => rfl
              | true =>
                have h1 := anc_listed i6 _ i _ hi3 ha
                rcases hns.2.2 with h2 | ⟨_,h2⟩
                · rw [h2] at h1
                  simp [Array.getD,i4] at h1
                · rw [h2] at h1; cases h1
          have hst2 : nxt ks listed ops.size = ops.size ∨ nxt ks listed ops.size ∈ ks := hns.2.2.imp (fun h => h) fun h => h.1
          obtain ⟨hrun,hskip⟩ := hfact.2 _ hst2 hst σ' w' a' _ i1 i5 hlook (by rw [length_mixE,flen i (by omega)])
          cases hwt : Region.wanted ops[i] (yielded ops a'.tmps) with
          | true =>
            simp only [if_true]
            obtain ⟨Q0,hq0,hwp⟩ := hrun hwt
            refine .inl (upon_mono ?_ (fun e a w h => absurd h (hq0 e a w)) hwp)
            rintro a2 w2 ⟨v,σ2,rfl,hI2,hX2,hr2⟩
            exact ih _ _ _ hcount (hdone v σ2 w2 _ (by rw [hnx]) hI2 hX2 hr2)
          | false =>
            simp only [Bool.false_eq_true,if_false]
            exact ih _ _ _ hcount (hdone undef σ' w' _ (by rw [hnx]) i1 (Ext.refl _ _ _) (hskip hwt))
  have hd0 : Ext st σ w st σ { w with drawn := w.drawn + 1 } := Ext.drew _
  have hg0 : G (nxt ks (Array.replicate ops.size false) ops.size) = st := by
    cases hk : ks with
    | nil =>
      have e1 : nxt [] (Array.replicate ops.size false) ops.size = ops.size := by simp [nxt]
      rw [e1,← gg1]
      exact gsame 0 ops.size (Nat.zero_le _) (Nat.le_refl _) fun k hk' => by rw [hk] at hk'; cases hk'
    | cons e0 r =>
      have e1 : nxt (e0 :: r) (Array.replicate ops.size false) ops.size = e0 := by
        have : (Array.replicate ops.size false).getD e0 false = false := by simp [Array.getD]
        simp only [nxt,List.find?_cons,this,Bool.not_false]; rfl
      rw [e1,← gg1]
      refine gsame 0 e0 (Nat.zero_le _) (Nat.le_of_lt (hkn' e0 (by rw [hk]; simp))) fun k hk' hc => ?_
      rw [hk] at hk' hks
      cases hk' with
      | head => omega
      | tail _ h => have := ord_lt hks k h; omega
  refine wp_region_any hm (key ops.size _ a _ ?_ ⟨σ,by rw [hg0]; exact hI.drew _,by rw [hg0]; exact hd0,hd,by simp,?_,fun i hi => ?_⟩)
  · have : ((List.range ops.size).filter fun j => !(Array.replicate ops.size false).getD j false) = List.range ops.size := by
      apply List.filter_eq_self.2
      intro j hj
      simp [Array.getD]
    rw [this]; simp
  · have e : mixE ops (Array.replicate ops.size false) env (F ops.size) = env := by
      apply List.ext_getElem?
      intro t
      by_cases ht : t < env.length
      · have hw : wr ops (Array.replicate ops.size false) t = false := by
          unfold wr
          rw [List.any_eq_false]
          intro j hj
          simp [Array.getD]
        simp [mixE,hw,ht]
      · rw [List.getElem?_eq_none (by rw [length_mixE]; omega),List.getElem?_eq_none (by omega)]
    rw [e,hg0]
    exact hR.ext hd0
  · simp [Array.getD] at hi
theorem awp_chain (ks el : List Nat) (R : St → Prop) {id : Nat} {ops : Array Oper} {Q : Exit → List SV → St → Prop} {env : List SV} {st : St} (hm : P.follows .mixedOrders = true) (hf : flowOk ops = true)
    (hks : ordOk ops ks = true) (hkn : ks.all (· < ops.size) = true) (hel : el.all (early ops ks) = true)
    (h : ∃ (F : Nat → List SV) (G : Nat → St) (X : Nat → SV),F 0 = env ∧ G 0 = st ∧ (∀ i,0 ≤ i → R (G i)) ∧
      (∀ i o,0 ≤ i → ops[i]? = some o → F (i + 1) = putE (F i) o.dst (X i) ∧
        (if ks.contains i then EffFact P ops (G i) (G (i + 1)) o (F i) (X i) else G (i + 1) = G i ∧ ∀ s,(if el.contains i then s = st else R s) → OpFact P ops s o (F i) (X i))) ∧
      Q .normal (F (0 + ops.toList.length)) (G (0 + ops.toList.length))) : AWp P (.region id ops true) Q env st := by
  obtain ⟨F,G,X,f1,gg1,gR,f2',f3⟩ := h
  refine awp_chain2 ks hm hf hks hkn ⟨F,G,X,f1,gg1,fun i o hi ho => ⟨(f2' i o hi ho).1,?_⟩,f3⟩
  have hfact := (f2' i o hi ho).2
  split
  · rename_i hk
    rwa [if_pos hk] at hfact
  · rename_i hk
    rw [if_neg hk] at hfact
    refine ⟨hfact.1,fun j hj ha => hfact.2 _ ?_⟩
    split
    · rename_i he0
      rw [List.all_eq_true] at hel
      have he : early ops ks i = true := hel i (by simpa using he0)
      have hkn' : ∀ k ∈ ks,k < ops.size := fun k hk => by rw [List.all_eq_true] at hkn; simpa using hkn k hk
      have hle : j ≤ ops.size := by
        rcases hj with h | h
        · omega
        · exact Nat.le_of_lt (hkn' j h)
      have hno : ∀ k ∈ ks,¬ k < j := by
        unfold alwJ at ha
        simp only [Bool.and_eq_true,List.all_eq_true,Bool.or_eq_true,Bool.not_eq_true',decide_eq_false_iff_not] at ha
        unfold early at he
        split at he
        · rename_i e0 r
          intro k hk hkj
          have h0 : ¬ e0 < j := by
            rcases ha.1 e0 (by simp) with h | h
            · exact h
            · rw [he] at h; cases h
          cases hk with
          | head => exact h0 hkj
          | tail _ hk => have := ord_lt hks k hk; omega
        · intro k hk; cases hk
      have hg : ∀ d,d ≤ j → G d = st := by
        intro d
        induction d with
        | zero => intro _; exact gg1
        | succ d ih =>
          intro hd
          have hp : ops[d]? = some ops[d] := by simp [show d < ops.size by omega]
          have h2 := (f2' d _ (Nat.zero_le _) hp).2
          rw [if_neg (fun hc => hno d (by simpa using hc) (by omega))] at h2
          rw [h2.1,ih (by omega)]
      exact hg j (Nat.le_refl _)
    · exact gR _ (Nat.zero_le _)
theorem awp_drawE (M : List Nat) (ks el : List Nat) (R : St → Prop) {id : Nat} {ops : Array Oper} {Q : Exit → List SV → St → Prop} {env : List SV} {st : St} (hm : P.follows .mixedOrders = true) (hf : flowOk ops = true)
    (hks : ordOk ops ks = true) (hkn : ks.all (· < ops.size) = true) (hel : el.all (early ops ks) = true) (hRst : R st) (h : drawE P M ops ks el R st 0 ops.toList env st fun e s => Q .normal e s) : AWp P (.region id ops true) Q env st :=
  awp_chain ks el R hm hf hks hkn hel (chainE 0 ops.toList env st rfl hRst h)
end Go.AL
namespace Go.AL
variable {P : Program}
def drawG (P : Program) (M : List Nat) (ops : Array Oper) (ks : List Nat) (R : Nat → St → Prop) : Nat → List Oper → List SV → St → (List SV → St → Prop) → Prop
  | _,[],env,st,K => K env st
  | i,o :: r,env,st,K =>
    if ks.contains i then ∃ X s',effSpec P M o (onlyAt (opTmps o.op.operands.toList) 0 env) st (fun x s => x = X ∧ s = s') ∧ o.guard = none ∧ (∀ j,ancB ops ops.size i j = false → R j s') ∧ drawG P M ops ks R (i + 1) r (putE env o.dst X) s' K
    else ∃ X,(∀ s,R i s → d1Spec P M (ops.toList.map (·.dst)) o env s (fun x => x = X)) ∧ drawG P M ops ks R (i + 1) r (putE env o.dst X) st K
theorem chainG {M : List Nat} {ops : Array Oper} {ks : List Nat} {R : Nat → St → Prop} {K : List SV → St → Prop} : ∀ (n : Nat) (l : List Oper) (env : List SV) (st : St),ops.toList.drop n = l →
    drawG P M ops ks R n l env st K →
    ∃ (F : Nat → List SV) (G : Nat → St) (X : Nat → SV),F n = env ∧ G n = st ∧ (∀ i,n ≤ i → G i = st ∨ ∃ k,k ∈ ks ∧ n ≤ k ∧ k < i ∧ ∀ j,ancB ops ops.size k j = false → R j (G i)) ∧
      (∀ i o,n ≤ i → ops[i]? = some o → F (i + 1) = putE (F i) o.dst (X i) ∧
        (if ks.contains i then EffFact P ops (G i) (G (i + 1)) o (F i) (X i) else G (i + 1) = G i ∧ ∀ s,R i s → OpFact P ops s o (F i) (X i))) ∧
      K (F (n + l.length)) (G (n + l.length))
  | n,[],env,st,hl,h => by
    refine ⟨fun _ => env,fun _ => st,fun _ => .any,rfl,rfl,fun _ _ => .inl rfl,fun i o hi ho => ?_,h⟩
    have h1 := lt_of_some ho
    have h2 := congrArg List.length hl
    simp at h2
    omega
  | n,o :: r,env,st,hl,h => by
    have ho : ops[n]? = some o := by
      have : (ops.toList.drop n)[0]? = some o := by rw [hl]; rfl
      rw [List.getElem?_drop,Nat.add_zero,Array.getElem?_toList] at this
      exact this
    have hr : ops.toList.drop (n + 1) = r := by rw [← List.drop_drop,hl]; rfl
    have fin : ∀ (X0 : SV) (s' : St),(s' = st ∨ n ∈ ks ∧ ∀ j,ancB ops ops.size n j = false → R j s') → drawG P M ops ks R (n + 1) r (putE env o.dst X0) s' K →
        (if ks.contains n then EffFact P ops st s' o env X0 else s' = st ∧ ∀ s,R n s → OpFact P ops s o env X0) →
        ∃ (F : Nat → List SV) (G : Nat → St) (X : Nat → SV),F n = env ∧ G n = st ∧ (∀ i,n ≤ i → G i = st ∨ ∃ k,k ∈ ks ∧ n ≤ k ∧ k < i ∧ ∀ j,ancB ops ops.size k j = false → R j (G i)) ∧
          (∀ i o,n ≤ i → ops[i]? = some o → F (i + 1) = putE (F i) o.dst (X i) ∧
            (if ks.contains i then EffFact P ops (G i) (G (i + 1)) o (F i) (X i) else G (i + 1) = G i ∧ ∀ s,R i s → OpFact P ops s o (F i) (X i))) ∧
          K (F (n + (o :: r).length)) (G (n + (o :: r).length)) := by
      intro X0 s' hrs' hrest hfact
      obtain ⟨F,G,X,f1,f2,f3,f4,f5⟩ := chainG (n + 1) r _ _ hr hrest
      refine ⟨fun i => if i = n then env else F i,fun i => if i = n then st else G i,fun i => if i = n then X0 else X i,by simp,by simp,fun i hi => ?_,fun i p hi hp => ?_,?_⟩
      · by_cases e : i = n
        · simp only [if_pos e]; exact .inl trivial
        · simp only [if_neg e]
          rcases f3 i (by omega) with h1 | ⟨k,h1,h2,h3,h4⟩
          · rw [h1]
            rcases hrs' with h2 | ⟨h2,h3⟩
            · exact .inl h2
            · exact .inr ⟨n,h2,Nat.le_refl _,by omega,h3⟩
          · exact .inr ⟨k,h1,by omega,h3,h4⟩
      · by_cases e : i = n
        · subst e
          rw [ho] at hp; cases hp
          simp only [if_true,show ¬ i + 1 = i by omega,if_false]
          refine ⟨f1,?_⟩
          rw [f2]
          exact hfact
        · simp only [if_neg e,show ¬ i + 1 = n by omega,if_false]
          exact f4 i p (by omega) hp
      · simp only [List.length_cons]
        rw [if_neg (by omega),if_neg (by omega),show n + (r.length + 1) = n + 1 + r.length by omega]
        exact f5
    simp only [drawG] at h
    by_cases hk : ks.contains n = true
    · rw [if_pos hk] at h
      obtain ⟨X0,s',h1,h2,h3,h4⟩ := h
      refine fin X0 s' (.inr ⟨by simpa using hk,h3⟩) h4 ?_
      rw [if_pos hk]
      intro σ w a env' hI hR hs hlen
      refine ⟨h2,fun _ _ _ => False,fun _ _ _ h => h,?_⟩
      refine upon_mono ?_ (fun _ _ _ h => h) (aop_eff h1 σ w a hI (rep_only hR hs hlen))
      rintro a' w' ⟨v,x,s1,σ',rfl,⟨rfl,rfl⟩,hI',hr',hX⟩
      exact ⟨v,σ',rfl,hI',hX,hr'⟩
    · rw [if_neg hk] at h
      obtain ⟨X0,h1,h2⟩ := h
      refine fin X0 st (.inl rfl) h2 ?_
      rw [if_neg hk]
      refine ⟨rfl,fun s hs => ?_⟩
      obtain ⟨X1,g1,rfl⟩ := fact_of (h1 s hs)
      exact g1
theorem awp_drawG (M : List Nat) (ks : List Nat) (R : Nat → St → Prop) {id : Nat} {ops : Array Oper} {Q : Exit → List SV → St → Prop} {env : List SV} {st : St} (hm : P.follows .mixedOrders = true) (hf : flowOk ops = true)
    (hks : ordOk ops ks = true) (hkn : ks.all (· < ops.size) = true) (hRst : ∀ j,R j st) (h : drawG P M ops ks R 0 ops.toList env st fun e s => Q .normal e s) : AWp P (.region id ops true) Q env st := by
  intro σ w a hI hR D hd
  obtain ⟨F,G,X,f1,gg1,gR,f2',f3⟩ := chainG 0 ops.toList env st rfl h
  simp only [Nat.zero_add,Array.length_toList] at f3
  have f2 : ∀ i o,0 ≤ i → ops[i]? = some o → True ∧ F (i + 1) = putE (F i) o.dst (X i) := fun i o hi ho => ⟨trivial,(f2' i o hi ho).1⟩
  have hkn' : ∀ k ∈ ks,k < ops.size := by
    intro k hk
    rw [List.all_eq_true] at hkn
    simpa using hkn k hk
  have gconst : ∀ d a,a + d ≤ ops.size → (∀ k ∈ ks,¬ (a ≤ k ∧ k < a + d)) → G (a + d) = G a := by
    intro d
    induction d with
    | zero => intro a _ _; rfl
    | succ d ih =>
      intro a ha hno
      have h1 := ih a (by omega) (fun k hk hc => hno k hk (by omega))
      have hp : ops[a + d]? = some ops[a + d] := by simp [show a + d < ops.size by omega]
      have h2 := (f2' (a + d) _ (Nat.zero_le _) hp).2
      rw [if_neg (by
        intro hc
        exact hno (a + d) (by simpa using hc) (by omega))] at h2
      rw [show a + (d + 1) = a + d + 1 by omega,h2.1,h1]
  have gsame : ∀ a b,a ≤ b → b ≤ ops.size → (∀ k ∈ ks,¬ (a ≤ k ∧ k < b)) → G b = G a := by
    intro a b hab hb hno
    obtain ⟨d,rfl⟩ := Nat.exists_eq_add_of_le hab
    exact gconst d a hb hno
  have hflow : ∀ i j p q,ops[i]? = some p → ops[j]? = some q → i ≠ j → ∀ t,q.dst = some t → (t ∈ looks ops p → if j < i then dirEdge p j = true else dirEdge q i = true) ∧ p.dst ≠ some t := by
    intro i j p q hp hq hne t ht
    have h1 := lt_of_some hp
    have h2 := lt_of_some hq
    unfold flowOk at hf
    rw [List.all_eq_true] at hf
    have h3 := hf i (by simpa using h1)
    simp only [Bool.and_eq_true,List.all_eq_true] at h3
    have h4 := h3.1 j (by simpa using h2)
    unfold flowAt at h4
    rw [hp,hq] at h4
    simp only [ht,Bool.or_eq_true,beq_iff_eq,Bool.and_eq_true,Bool.not_eq_true',bne_iff_ne,ne_eq] at h4
    rcases h4 with h4 | ⟨h4,h5⟩
    · exact absurd h4 hne
    · refine ⟨fun hlk => ?_,h5⟩
      rcases h4 with h4 | h4
      · simp [hlk] at h4
      · split <;> rename_i hji <;> simpa [hji] using h4
  have hback : ∀ i p,ops[i]? = some p → ∀ e,e ∈ p.after.toList → Region.binds .any e = true → e.on < i := by
    intro i p hp e he hb
    have h1 := lt_of_some hp
    unfold flowOk at hf
    rw [List.all_eq_true] at hf
    have h3 := hf i (by simpa using h1)
    simp only [Bool.and_eq_true,hp,Option.map_some,Option.getD_some,List.all_eq_true] at h3
    have h4 := h3.2 e he
    simpa [hb] using h4
  have flen : ∀ i,i ≤ ops.size → (F i).length = env.length := by
    intro i
    induction i with
    | zero => intro _; rw [f1]
    | succ i ih =>
      intro hi
      have hp : ops[i]? = some ops[i] := by simp [show i < ops.size by omega]
      rw [(f2 i _ (Nat.zero_le _) hp).2,length_putE,ih (by omega)]
  have fget : ∀ i,i ≤ ops.size → ∀ t,t < env.length → (∀ j,j < i → writes ops j t = true → (F i).getD t .any = X j) ∧ ((∀ j,j < i → writes ops j t = false) → (F i).getD t .any = env.getD t .any) := by
    intro i
    induction i with
    | zero => intro _ t ht; exact ⟨fun j hj => absurd hj (Nat.not_lt_zero _),fun _ => by rw [f1]⟩
    | succ i ih =>
      intro hi t ht
      obtain ⟨ih1,ih2⟩ := ih (by omega) t ht
      have hp : ops[i]? = some ops[i] := by simp [show i < ops.size by omega]
      have he := (f2 i _ (Nat.zero_le _) hp).2
      have hg : (F (i + 1)).getD t .any = if ops[i].dst = some t then X i else (F i).getD t .any := by rw [he]; exact putE_get (by rw [flen i (by omega)]; exact ht)
      have hwi : writes ops i t = true ↔ ops[i].dst = some t := by simp [writes,hp]
      refine ⟨fun j hj hw => ?_,fun hno => ?_⟩
      · rw [hg]
        by_cases c : ops[i].dst = some t
        · rw [if_pos c]
          by_cases e : j = i
          · rw [e]
          · have hjl : j < ops.size := by omega
            have hq : ops[j]? = some ops[j] := by simp [hjl]
            have hjd : ops[j].dst = some t := by simpa [writes,hq] using hw
            exact absurd c (hflow i j _ _ hp hq (by omega) t hjd).2
        · rw [if_neg c]
          have e : j ≠ i := by rintro rfl; exact c (hwi.1 hw)
          exact ih1 j (by omega) hw
      · rw [hg,if_neg (fun c => by have := hno i (by omega); rw [hwi.2 c] at this; cases this)]
        exact ih2 fun j hj => hno j (by omega)
  let Inv' : Array Bool → Act → World → Prop := fun listed a' w' => ∃ σ',Inv (G (nxt ks listed ops.size)) σ' w' ∧ Ext st σ w (G (nxt ks listed ops.size)) σ' w' ∧ a'.defers = D ∧ listed.size = ops.size ∧
    RepEnv (G (nxt ks listed ops.size)) σ' w' (mixE ops listed env (F ops.size)) a'.tmps ∧ ∀ i,listed.getD i false = true → ∀ p,ops[i]? = some p → ∀ e,e ∈ p.after.toList → Region.binds .any e = true → listed.getD e.on false = true
  have key : ∀ (fuel : Nat) (listed : Array Bool) (a' : Act) (w' : World),((List.range ops.size).filter fun j => !listed.getD j false).length = fuel → Inv' listed a' w' →
      wpAny P .any ops (fun e a' w' => Post D (Q e) st σ w a' w') fuel listed a' w' := by
    intro fuel
    induction fuel with
    | zero =>
      intro listed a' w' hc hI'
      obtain ⟨σ',i1,i2,i3,i4,i5,i6⟩ := hI'
      have hall : ∀ j,j < ops.size → listed.getD j false = true := by
        intro j hj
        have h0 : (List.range ops.size).filter (fun j => !listed.getD j false) = [] := List.eq_nil_of_length_eq_zero hc
        rw [List.filter_eq_nil_iff] at h0
        simpa using h0 j (by simpa using hj)
      have hnx : nxt ks listed ops.size = ops.size := nxt_none fun k hk => hall k (hkn' k hk)
      rw [hnx] at i1 i2 i5
      refine ⟨?_,i3,mixE ops listed env (F ops.size),G ops.size,σ',?_,i1,i5,i2⟩
      · unfold Region.ready
        rw [List.filter_eq_nil_iff]
        intro j hj
        have hj' : j < ops.size := by simpa using hj
        have h1 := hall j hj'
        have : listed.getD j true = true := by
          rw [Array.getD_eq_getD_getElem?] at h1 ⊢
          rw [Array.getElem?_eq_getElem (by omega)] at h1 ⊢
          exact h1
        simp [this]
      · have e : mixE ops listed env (F ops.size) = F ops.size := by
          apply List.ext_getElem?
          intro t
          by_cases ht : t < env.length
          · have h1 := getD_mixE (ops := ops) (listed := listed) (eN := F ops.size) ht
            have hl1 : t < (mixE ops listed env (F ops.size)).length := by rw [length_mixE]; exact ht
            have hl2 : t < (F ops.size).length := by rw [flen _ (Nat.le_refl _)]; exact ht
            rw [List.getElem?_eq_getElem hl1,List.getElem?_eq_getElem hl2]
            simp only [List.getD_eq_getElem?_getD,List.getElem?_eq_getElem hl1,List.getElem?_eq_getElem hl2,Option.getD_some] at h1
            rw [h1]
            split
            · rfl
            · rename_i hno
              have h2 := (fget ops.size (Nat.le_refl _) t ht).2 (fun j hj => by
                cases hw : writes ops j t with
                | false => rfl
                | true =>
                  exfalso
                  apply hno
                  unfold wr
                  rw [List.any_eq_true]
                  exact ⟨j,by simpa using hj,by rw [hall j hj,hw]; rfl⟩)
              simp only [List.getD_eq_getElem?_getD,List.getElem?_eq_getElem hl2,Option.getD_some] at h2
              rw [h2]
          · rw [List.getElem?_eq_none (by rw [length_mixE]; omega),List.getElem?_eq_none (by rw [flen _ (Nat.le_refl _)]; omega)]
        rw [e]
        exact f3
    | succ fuel ih =>
      intro listed a' w' hc hI'
      obtain ⟨σ',i1,i2,i3,i4,i5,i6⟩ := hI'
      have hready : ∀ i,i ∈ Region.ready .any ops listed ↔ i < ops.size ∧ listed.getD i true = false ∧ ∀ p,ops[i]? = some p → ∀ e,e ∈ p.after.toList → Region.binds .any e = true → listed.getD e.on false = true := by
        intro i
        unfold Region.ready
        rw [List.mem_filter]
        constructor
        · rintro ⟨h1,h2⟩
          have h1' : i < ops.size := by simpa using h1
          simp only [Bool.and_eq_true,Bool.not_eq_true'] at h2
          refine ⟨h1',h2.1,fun p hp e he hb => ?_⟩
          have h3 := h2.2
          rw [hp] at h3
          simp only [Option.map_some,Option.getD_some,Array.all_eq_true'] at h3
          have := h3 e (by simpa using he)
          simpa [hb] using this
        · rintro ⟨h1,h2,h3⟩
          refine ⟨by simpa using h1,?_⟩
          have hp : ops[i]? = some ops[i] := by simp [h1]
          simp only [h2,hp,Option.map_some,Option.getD_some,Bool.not_false,Bool.true_and,Array.all_eq_true']
          intro e he
          cases hb : Region.binds .any e with
          | false => rfl
          | true => simpa using h3 _ hp e (by simpa using he) hb
      refine ⟨fun hnil => ?_,fun i hi => ?_⟩
      · -- the least one that is not listed is ready
        exfalso
        have hex : ∃ j,j < ops.size ∧ listed.getD j false = false := by
          have hne : (List.range ops.size).filter (fun j => !listed.getD j false) ≠ [] := by intro h0; rw [h0] at hc; cases hc
          obtain ⟨j,hj⟩ := List.exists_mem_of_ne_nil _ hne
          rw [List.mem_filter] at hj
          exact ⟨j,by simpa using hj.1,by simpa using hj.2⟩
        obtain ⟨j,hj1,hj2⟩ := hex
        have least : ∀ n,∀ j,j ≤ n → j < ops.size → listed.getD j false = false → ∃ i,i < ops.size ∧ listed.getD i false = false ∧ ∀ k,k < i → listed.getD k false = true := by
          intro n
          induction n with
          | zero =>
            intro j hj h1 h2
            exact ⟨j,h1,h2,fun k hk => by omega⟩
          | succ n ihn =>
            intro j hj h1 h2
            by_cases c : ∃ k,k < j ∧ listed.getD k false = false
            · obtain ⟨k,hk1,hk2⟩ := c
              exact ihn k (by omega) (by omega) hk2
            · refine ⟨j,h1,h2,fun k hk => ?_⟩
              cases hv : listed.getD k false with
              | true => rfl
              | false => exact absurd ⟨k,hk,hv⟩ c
        obtain ⟨i,hi1,hi2,hi3⟩ := least j j (Nat.le_refl _) hj1 hj2
        have : i ∈ Region.ready .any ops listed := (hready i).2 ⟨hi1,by
          rw [Array.getD_eq_getD_getElem?] at hi2 ⊢
          rw [Array.getElem?_eq_getElem (by omega)] at hi2 ⊢
          exact hi2,fun p hp e he hb => hi3 _ (hback i p hp e he hb)⟩
        rw [hnil] at this
        cases this
      · obtain ⟨hi1,hi2,hi3⟩ := (hready i).1 hi
        have hp : ops[i]? = some ops[i] := by simp [hi1]
        have hnl : listed.getD i false = false := by
          rw [Array.getD_eq_getD_getElem?] at hi2 ⊢
          rw [Array.getElem?_eq_getElem (by omega)] at hi2 ⊢
          exact hi2
        obtain ⟨hnext,hfact⟩ := f2' i _ (Nat.zero_le _) hp
        have hagree : ∀ t ∈ looks ops ops[i],(mixE ops listed env (F ops.size)).getD t .any = (F i).getD t .any := by
          intro t ht
          by_cases hlt : t < env.length
          · rw [getD_mixE hlt]
            obtain ⟨g1,g2⟩ := fget i (by omega) t hlt
            obtain ⟨gN1,gN2⟩ := fget ops.size (Nat.le_refl _) t hlt
            by_cases c : ∃ j,j < i ∧ writes ops j t = true
            · obtain ⟨j,hj,hw⟩ := c
              have hjl : j < ops.size := by omega
              have hq : ops[j]? = some ops[j] := by simp [hjl]
              have hjd : ops[j].dst = some t := by simpa [writes,hq] using hw
              have hedge := (hflow i j _ _ hp hq (by omega) t hjd).1 ht
              rw [if_pos hj] at hedge
              have hlj : listed.getD j false = true := by
                unfold dirEdge at hedge
                rw [List.any_eq_true] at hedge
                obtain ⟨e,he1,he2⟩ := hedge
                simp only [Bool.and_eq_true,beq_iff_eq] at he2
                have := hi3 _ hp e he1 he2.1
                rwa [he2.2] at this
              rw [if_pos (by unfold wr; rw [List.any_eq_true]; exact ⟨j,by simpa using hjl,by rw [hlj,hw]; rfl⟩),g1 j hj hw,gN1 j hjl hw]
            · rw [g2 fun j hj => by
                cases hw : writes ops j t with
                | false => rfl
                | true => exact absurd ⟨j,hj,hw⟩ c]
              rw [if_neg]
              intro hwr
              unfold wr at hwr
              rw [List.any_eq_true] at hwr
              obtain ⟨j,hj1,hj2⟩ := hwr
              simp only [Bool.and_eq_true] at hj2
              have hjl : j < ops.size := by simpa using hj1
              have hq : ops[j]? = some ops[j] := by simp [hjl]
              have hjd : ops[j].dst = some t := by simpa [writes,hq] using hj2.2
              have hne : i ≠ j := by rintro rfl; rw [hj2.1] at hnl; cases hnl
              have hnji : ¬ j < i := fun hji => c ⟨j,hji,hj2.2⟩
              have hedge := (hflow i j _ _ hp hq hne t hjd).1 ht
              rw [if_neg hnji] at hedge
              unfold dirEdge at hedge
              rw [List.any_eq_true] at hedge
              obtain ⟨e,he1,he2⟩ := hedge
              simp only [Bool.and_eq_true,beq_iff_eq] at he2
              have := i6 j hj2.1 _ hq e he1 he2.1
              rw [he2.2,hnl] at this
              cases this
          · rw [List.getD_eq_getElem?_getD,List.getD_eq_getElem?_getD,List.getElem?_eq_none (by rw [length_mixE]; omega),List.getElem?_eq_none (by rw [flen i (by omega)]; omega)]
        have hns := nxt_spec (listed := listed) hks hkn'
        have hdone : ∀ (v : Value) (σ2 : Sig) (w2 : World) (s2 : St),s2 = G (nxt ks (listed.setIfInBounds i true) ops.size) → Inv s2 σ2 w2 → Ext (G (nxt ks listed ops.size)) σ' w' s2 σ2 w2 → Rep s2 σ2 w2 (X i) v →
            Inv' (listed.setIfInBounds i true) (a'.put ops[i].dst v) w2 := by
          intro v σ2 w2 s2 es2 hI2 hX2 hr2
          subst es2
          have gl : ∀ k,(listed.setIfInBounds i true).getD k false = if k = i then true else listed.getD k false := by
            intro k
            rw [Array.getD_eq_getD_getElem?,Array.getD_eq_getD_getElem?]
            by_cases e : i = k
            · subst e; simp [show i < listed.size by omega]
            · rw [Array.getElem?_setIfInBounds_ne e,if_neg (fun h => e h.symm)]
          have hRE := i5.ext hX2
          refine ⟨σ2,hI2,i2.trans hX2,by rw [put_defers]; exact i3,by simpa using i4,⟨?_,fun t ht => ?_⟩,fun k hk p hp' e he hb => ?_⟩
          · rw [length_mixE]
            have := hRE.1
            rw [length_mixE] at this
            cases ops[i].dst with
            | none => exact this
            | some d => simpa [Act.put] using this
          · rw [length_mixE] at ht
            have hput := rep_put hRE ops[i].dst hr2
            have h1 := hput.2 t (by rw [length_putE,length_mixE]; exact ht)
            rw [putE_get (by rw [length_mixE]; exact ht)] at h1
            have e : (mixE ops (listed.setIfInBounds i true) env (F ops.size)).getD t .any = if ops[i].dst = some t then X i else (mixE ops listed env (F ops.size)).getD t .any := by
              rw [getD_mixE ht,getD_mixE ht]
              obtain ⟨gN1,gN2⟩ := fget ops.size (Nat.le_refl _) t ht
              by_cases c : ops[i].dst = some t
              · rw [if_pos c,if_pos]
                · exact gN1 i hi1 (by simp [writes,hp,c])
                · unfold wr
                  rw [List.any_eq_true]
                  exact ⟨i,by simpa using hi1,by rw [gl,if_pos rfl]; simp [writes,hp,c]⟩
              · rw [if_neg c]
                have e2 : wr ops (listed.setIfInBounds i true) t = wr ops listed t := by
                  unfold wr
                  apply Bool.eq_iff_iff.2
                  rw [List.any_eq_true,List.any_eq_true]
                  constructor
                  · rintro ⟨j,hj1,hj2⟩
                    simp only [Bool.and_eq_true] at hj2
                    refine ⟨j,hj1,?_⟩
                    rw [gl] at hj2
                    by_cases ej : j = i
                    · subst ej; exact absurd (by simpa [writes,hp] using hj2.2) c
                    · rw [if_neg ej] at hj2; simp [hj2.1,hj2.2]
                  · rintro ⟨j,hj1,hj2⟩
                    simp only [Bool.and_eq_true] at hj2
                    refine ⟨j,hj1,?_⟩
                    rw [gl]
                    split <;> simp [hj2.1,hj2.2]
                rw [e2]
            rw [e]
            exact h1
          · rw [gl] at hk ⊢
            split
            · rfl
            · by_cases ek : k = i
              · subst ek
                rw [hp] at hp'; cases hp'
                exact hi3 _ hp e he hb
              · rw [if_neg ek] at hk
                exact i6 k hk p hp' e he hb
        have hcount : ((List.range ops.size).filter fun j => !(listed.setIfInBounds i true).getD j false).length = fuel := by
          have h1 : ((List.range ops.size).filter fun j => !listed.getD j false) = (List.range ops.size).filter fun j => !listed.getD j false := rfl
          have hperm : ∀ l : List Nat,l.Nodup → i ∈ l → (l.filter fun j => !listed.getD j false).length = (l.filter fun j => !(listed.setIfInBounds i true).getD j false).length + 1 := by
            intro l
            have gl : ∀ k,(listed.setIfInBounds i true).getD k false = if k = i then true else listed.getD k false := by
              intro k
              rw [Array.getD_eq_getD_getElem?,Array.getD_eq_getD_getElem?]
              by_cases e : i = k
              · subst e; simp [show i < listed.size by omega]
              · rw [Array.getElem?_setIfInBounds_ne e,if_neg (fun h => e h.symm)]
            induction l with
            | nil => intro _ h; cases h
            | cons x r ihr =>
              intro hnd hmem
              rw [List.nodup_cons] at hnd
              by_cases e : x = i
              · subst e
                have hrest : (r.filter fun j => !listed.getD j false) = r.filter fun j => !(listed.setIfInBounds x true).getD j false := by
                  apply List.filter_congr
                  intro j hj
                  rw [gl,if_neg (by rintro rfl; exact hnd.1 hj)]
                rw [List.filter_cons,List.filter_cons,if_pos (by rw [hnl]; rfl),if_neg (by rw [gl,if_pos rfl]; decide),hrest]
                simp
              · have hm : i ∈ r := by
                  cases hmem with
                  | head => exact absurd rfl e
                  | tail _ h => exact h
                have := ihr hnd.2 hm
                simp only [List.filter_cons,gl x,if_neg e]
                split <;> simp only [List.length_cons,this]
          have := hperm _ List.nodup_range (by simpa using hi1)
          omega
        have gl : ∀ k,(listed.setIfInBounds i true).getD k false = if k = i then true else listed.getD k false := by
          intro k
          rw [Array.getD_eq_getD_getElem?,Array.getD_eq_getD_getElem?]
          by_cases e : i = k
          · subst e; simp [show i < listed.size by omega]
          · rw [Array.getElem?_setIfInBounds_ne e,if_neg (fun h => e h.symm)]
        have hlook := hagree
        unfold wpOp
        rw [hp]
        simp only
        by_cases hk : ks.contains i = true
        · -- one that turns the objects
          have hki : i ∈ ks := by simpa using hk
          rw [if_pos hk] at hfact
          have hnx : nxt ks listed ops.size = i := nxt_eff ops.size i6 hi3 hnl hks hki
          have hnx2 : G (nxt ks (listed.setIfInBounds i true) ops.size) = G (i + 1) := by
            have hns2 := nxt_spec (listed := listed.setIfInBounds i true) hks hkn'
            have hge : i + 1 ≤ nxt ks (listed.setIfInBounds i true) ops.size := by
              rcases hns2.2.2 with h | ⟨h1,h2⟩
              · omega
              · rw [gl] at h2
                by_cases e : nxt ks (listed.setIfInBounds i true) ops.size = i
                · rw [if_pos e] at h2; cases h2
                · rw [if_neg e] at h2
                  rcases Nat.lt_or_ge (nxt ks (listed.setIfInBounds i true) ops.size) i with hlt | hge
                  · have := hns.2.1 _ h1 (by omega)
                    rw [h2] at this; cases this
                  · omega
            refine gsame _ _ hge hns2.1 fun k hkk hc => ?_
            have h1 := hns2.2.1 k hkk hc.2
            rw [gl,if_neg (by omega)] at h1
            have : ∀ {l : List Nat},ordOk ops l = true → i ∈ l → k ∈ l → listed.getD i false = true := by
              intro l
              induction l with
              | nil => intro _ h; cases h
              | cons a r ihl =>
                intro ho hi' hk'
                by_cases ea : a = i
                · subst ea
                  have hkr : k ∈ r := by
                    cases hk' with
                    | head => omega
                    | tail _ h => exact h
                  exact ord_prefix i6 ho k hkr h1
                · have hir : i ∈ r := by
                    cases hi' with
                    | head => exact absurd rfl ea
                    | tail _ h => exact h
                  by_cases ek : a = k
                  · subst ek
                    have := ord_lt ho i hir
                    omega
                  · have hkr : k ∈ r := by
                      cases hk' with
                      | head => exact absurd rfl ek
                      | tail _ h => exact h
                    exact ihl (ord_tail ho) hir hkr
            have hcon := this hks hki hkk
            rw [hnl] at hcon; cases hcon
          rw [hnx] at i1 i2 i5 hdone
          obtain ⟨hgn,Q0,hq0,hwp⟩ := hfact σ' w' a' _ i1 i5 hlook (by rw [length_mixE,flen i (by omega)])
          have hwt : Region.wanted ops[i] (yielded ops a'.tmps) = true := by simp [Region.wanted,hgn]
          simp only [hwt,if_true]
          refine .inl (upon_mono ?_ (fun e a w h => absurd h (hq0 e a w)) hwp)
          rintro a2 w2 ⟨v,σ2,rfl,hI2,hX2,hr2⟩
          exact ih _ _ _ hcount (hdone v σ2 w2 _ hnx2.symm hI2 hX2 hr2)
        · rw [if_neg hk] at hfact
          have hki : i ∉ ks := by simpa using hk
          have hnx : nxt ks (listed.setIfInBounds i true) ops.size = nxt ks listed ops.size := by
            unfold nxt
            have : ∀ l : List Nat,i ∉ l → (l.find? fun e => !(listed.setIfInBounds i true).getD e false) = l.find? fun e => !listed.getD e false := by
              intro l
              induction l with
              | nil => intro _; rfl
              | cons a r ihl =>
                intro hni
                have h1 : a ≠ i := fun e => hni (by simp [e])
                rw [List.find?_cons,List.find?_cons,gl,if_neg h1,ihl (fun h => hni (by simp [h]))]
            rw [this ks hki]
          have hst : R i (G (nxt ks listed ops.size)) := by
            rcases gR (nxt ks listed ops.size) (Nat.zero_le _) with h1 | ⟨k,h1,_,h3,h4⟩
            · rw [h1]; exact hRst i
            · refine h4 i ?_
              cases hv : ancB ops ops.size k i with
              | false => rfl
              | true =>
                have hkl := (nxt_spec (listed := listed) hks hkn').2.1 k h1 h3
                have := anc_listed i6 _ k i (i6 k hkl) hv
                rw [hnl] at this; cases this
          obtain ⟨hrun,hskip⟩ := hfact.2 _ hst σ' w' a' _ i1 i5 hlook (by rw [length_mixE,flen i (by omega)])
          cases hwt : Region.wanted ops[i] (yielded ops a'.tmps) with
          | true =>
            simp only [if_true]
            obtain ⟨Q0,hq0,hwp⟩ := hrun hwt
            refine .inl (upon_mono ?_ (fun e a w h => absurd h (hq0 e a w)) hwp)
            rintro a2 w2 ⟨v,σ2,rfl,hI2,hX2,hr2⟩
            exact ih _ _ _ hcount (hdone v σ2 w2 _ (by rw [hnx]) hI2 hX2 hr2)
          | false =>
            simp only [Bool.false_eq_true,if_false]
            exact ih _ _ _ hcount (hdone undef σ' w' _ (by rw [hnx]) i1 (Ext.refl _ _ _) (hskip hwt))
  have hd0 : Ext st σ w st σ { w with drawn := w.drawn + 1 } := Ext.drew _
  have hg0 : G (nxt ks (Array.replicate ops.size false) ops.size) = st := by
    cases hk : ks with
    | nil =>
      have e1 : nxt [] (Array.replicate ops.size false) ops.size = ops.size := by simp [nxt]
      rw [e1,← gg1]
      exact gsame 0 ops.size (Nat.zero_le _) (Nat.le_refl _) fun k hk' => by rw [hk] at hk'; cases hk'
    | cons e0 r =>
      have e1 : nxt (e0 :: r) (Array.replicate ops.size false) ops.size = e0 := by
        have : (Array.replicate ops.size false).getD e0 false = false := by simp [Array.getD]
        simp only [nxt,List.find?_cons,this,Bool.not_false]; rfl
      rw [e1,← gg1]
      refine gsame 0 e0 (Nat.zero_le _) (Nat.le_of_lt (hkn' e0 (by rw [hk]; simp))) fun k hk' hc => ?_
      rw [hk] at hk' hks
      cases hk' with
      | head => omega
      | tail _ h => have := ord_lt hks k h; omega
  refine wp_region_any hm (key ops.size _ a _ ?_ ⟨σ,by rw [hg0]; exact hI.drew _,by rw [hg0]; exact hd0,hd,by simp,?_,fun i hi => ?_⟩)
  · have : ((List.range ops.size).filter fun j => !(Array.replicate ops.size false).getD j false) = List.range ops.size := by
      apply List.filter_eq_self.2
      intro j hj
      simp [Array.getD]
    rw [this]; simp
  · have e : mixE ops (Array.replicate ops.size false) env (F ops.size) = env := by
      apply List.ext_getElem?
      intro t
      by_cases ht : t < env.length
      · have hw : wr ops (Array.replicate ops.size false) t = false := by
          unfold wr
          rw [List.any_eq_false]
          intro j hj
          simp [Array.getD]
        simp [mixE,hw,ht]
      · rw [List.getElem?_eq_none (by rw [length_mixE]; omega),List.getElem?_eq_none (by omega)]
    rw [e,hg0]
    exact hR.ext hd0
  · simp [Array.getD] at hi
end Go.AL
namespace Go.AL
variable {P : Program}
def LeSV (x y : SV) : Prop := y = .any ∨ x = y ∨ norm x = y
def LeEnv : List SV → List SV → Prop
  | [],[] => True
  | x :: r,y :: r' => LeSV x y ∧ LeEnv r r'
  | _,_ => False
theorem rep_le {st : St} {σ : Sig} {w : World} {x y : SV} {v : Value} (h : LeSV x y) (r : Rep st σ w x v) : Rep st σ w y v := by
  rcases h with rfl | rfl | rfl
  · exact .any _
  · exact r
  · exact r.norm
theorem leEnv_spec : ∀ (a b : List SV),LeEnv a b → a.length = b.length ∧ ∀ i,i < b.length → LeSV (a.getD i .any) (b.getD i .any)
  | [],[],_ => ⟨rfl,fun i hi => absurd hi (Nat.not_lt_zero _)⟩
  | x :: r,y :: r',h => by
    obtain ⟨h1,h2⟩ := leEnv_spec r r' h.2
    refine ⟨by simp [h1],fun i hi => ?_⟩
    cases i with
    | zero => exact h.1
    | succ i => exact h2 i (by simpa using hi)
theorem repEnv_le {st : St} {σ : Sig} {w : World} {a b : List SV} {t : Array Value} (h : LeEnv a b) (r : RepEnv st σ w a t) : RepEnv st σ w b t := by
  obtain ⟨h1,h2⟩ := leEnv_spec a b h
  exact ⟨by rw [← h1]; exact r.1,fun i hi => rep_le (h2 i hi) (r.2 i (by omega))⟩
theorem leEnv_nil : LeEnv [] [] := trivial
theorem leEnv_any (x : SV) {r r' : List SV} (h : LeEnv r r') : LeEnv (x :: r) (.any :: r') := ⟨.inl rfl,h⟩
theorem leEnv_same (x : SV) {r r' : List SV} (h : LeEnv r r') : LeEnv (x :: r) (x :: r') := ⟨.inr (.inl rfl),h⟩
theorem leEnv_norm (x : SV) {r r' : List SV} (h : LeEnv r r') : LeEnv (x :: r) (norm x :: r') := ⟨.inr (.inr rfl),h⟩
theorem awp_weaken {c : Code} {Q : Exit → List SV → St → Prop} {a b : List SV} {st : St} (hl : LeEnv a b) (h : AWp P c Q b st) : AWp P c Q a st :=
  fun σ w t hI hR {_} hd => h σ w t hI (repEnv_le hl hR) hd
def RetR (P : Program) (rs : List ResultVar) (K : SV → St → Prop) : Exit → List SV → St → Prop
  | .normal => fun env st => (aResL P env st rs).isSome = true ∧ K (oneOf ((aResL P env st rs).getD [])) st
  | .ret => fun env st => (aResL P env st rs).isSome = true ∧ K (oneOf ((aResL P env st rs).getD [])) st
  | _ => fun _ _ => False
def bOf : SV → Bool
  | .sc (.bool b) => b
  | _ => false
def isB : SV → Prop
  | .sc (.bool b) => True
  | _ => False
theorem isB_spec {x : SV} (h : isB x) : x = .sc (.bool (bOf x)) := by
  unfold isB at h
  split at h
  · rfl
  · exact h.elim
def cSpec (P : Program) (M : List Nat) : Code → (Exit → List SV → St → Prop) → List SV → St → Prop
  | .skip,Q,env,st => Q .normal env st
  | .region _ ops false,Q,env,st => opsSpec P M (ops.toList.map (·.dst)) ops.toList env st (Q .normal)
  | .seq a b,Q,env,st => cSpec P M a (thenQ (cSpec P M b Q) Q) env st
  | .cond c x y,Q,env,st => isB (ev env c) ∧ (bOf (ev env c) = true → cSpec P M x Q env st) ∧ (bOf (ev env c) = false → cSpec P M y Q env st)
  | .block id c,Q,env,st => cSpec P M c (blockQ id Q) env st
  | .exit id,Q,env,st => Q (.exit id) env st
  | .ret,Q,env,st => Q .ret env st
  | .label _,Q,env,st => Q .normal env st
  | c,Q,env,st => AWp P c Q env st
theorem awp_c {M : List Nat} : ∀ {c : Code} {Q : Exit → List SV → St → Prop} {env : List SV} {st : St},cSpec P M c Q env st → AWp P c Q env st := by
  intro c
  induction c with
  | skip => exact fun h => awp_skip h
  | region id ops draw =>
    intro Q env st h
    cases draw with
    | false => exact awp_region_spec M h
    | true => exact h
  | seq a b iha ihb =>
    intro Q env st h
    refine awp_seq ((iha h).mono fun e env st he => ?_)
    cases e <;> first | exact ihb he | exact he
  | cond c x y ihx ihy =>
    intro Q env st h
    obtain ⟨h1,h2,h3⟩ := h
    exact awp_cond (isB_spec h1) (fun e => ihx (h2 e)) (fun e => ihy (h3 e))
  | block id c ih => exact fun h => awp_block (ih h)
  | exit id => exact fun h => awp_exit h
  | ret => exact fun h => awp_ret h
  | label l => exact fun h => awp_label h
  | _ => exact fun h => h
theorem acalls_go {M : List Nat} {f : FuncId} {fn : Func} {c : Code} {rs : Array ResultVar} {n : Nat} {args : List SV} {K : SV → St → Prop} {st : St} (hf : P.funcs[f]? = some fn) (hb : fn.body = some c)
    (hr : fn.results = rs) (hn : fn.ntmps = n) (h : cSpec P M c (RetR P rs.toList K) (args ++ List.replicate (n - args.length) .any) st) : ACalls P f args K st := by
  subst hr; subst hn
  refine acalls_of hf hb ((awp_c h).mono fun e env st hq => ?_)
  cases e <;> simp only [RetR] at hq <;> first | exact hq.elim | exact ⟨trivial,_,getD_of (d := []) hq.1,hq.2⟩
def FinK (st : St) (K : SV → St → Prop) : SV → St → Prop := fun x s => (∃ ex,s = st ++ ex) ∧ Ids st.length (norm x) ∧ K (norm x) st
theorem acalls_go_pure (M : List Nat) {f : FuncId} {fn : Func} {c : Code} {rs : Array ResultVar} {n : Nat} {args : List SV} {K : SV → St → Prop} {st : St} (hf : P.funcs[f]? = some fn) (hb : fn.body = some c)
    (hr : fn.results = rs) (hn : fn.ntmps = n) (h : cSpec P M c (RetR P rs.toList (FinK st K)) (args ++ List.replicate (n - args.length) .any) st) :
    ACalls P f args K st :=
  acalls_pure ((acalls_go hf hb hr hn h).mono fun x s ⟨⟨ex,e⟩,h1,h2⟩ => ⟨ex,e,h1,h2⟩)
theorem awp_rounds {c : Code} {Q : Exit → List SV → St → Prop} (M : List Nat) (I : Nat → List SV → St → Prop) {env env0 : List SV} {st : St} {n : Nat} (hl : LeEnv env env0) (h0 : I n env0 st)
    (round : ∀ n env st,I n env st → cSpec P M c (thenQ (fun e s => ∃ m e',m < n ∧ LeEnv e e' ∧ I m e' s) Q) env st) : AWp P (.loop c) Q env st := by
  refine awp_weaken hl (awp_loop (fun m e s => ∃ e',LeEnv e e' ∧ I m e' s) ⟨env0,?_,h0⟩ ?_)
  · have key : ∀ l : List SV,LeEnv l l := by
      intro l
      induction l with
      | nil => trivial
      | cons x r ih => exact ⟨.inr (.inl rfl),ih⟩
    exact key env0
  · rintro m e s ⟨e',hle,hi⟩
    refine awp_weaken hle ((awp_c (round m e' s hi)).mono fun x env st hq => ?_)
    cases x <;> first | exact hq | (obtain ⟨m',e2,h1,h2,h3⟩ := hq; exact ⟨m',h1,e2,h2,h3⟩)
theorem awp_own {c : Code} {Q : Exit → List SV → St → Prop} {env : List SV} {st : St} (d z z' : Nat) (he : env.getD d .any = .slice .full z' [])
    (h : AWp P c Q (env.set d (.slice (.own st.length 0) z [])) (st ++ [.tok 0])) : AWp P c Q env st := by
  intro σ w t hI hR D hd
  have hX : Ext st σ w (st ++ [.tok 0]) (σ.setMu st.length none) w := Ext.newTok none
  have hI' := hI.newTok none (fun c hc => by cases hc)
  have hr := hR.get d
  rw [he] at hr
  have hr2 : Rep (st ++ [.tok 0]) (σ.setMu st.length none) w (.slice (.own st.length 0) z []) (t.tmps.getD d undef) := by
    have h3 := (rep_nil_z (z' := z) hr (.inl rfl)).ext hX
    generalize t.tmps.getD d undef = v at h3
    generalize hl : ([] : List SV) = l at h3
    generalize hx : SV.slice .full z l = x at h3
    cases h3 with
    | nil m z hm => cases hx; exact .nil _ _ ⟨0,by simp,Nat.le_refl _⟩
    | slice m z l a cap vals hcap hsp hzz hc hr hm =>
      cases hx
      subst hl
      exact .slice _ _ _ _ _ vals hcap hsp hzz hc hr ⟨0,by simp,Nat.le_refl _,fun _ => .inl hm⟩
    | _ => cases hx
  have hR' : RepEnv (st ++ [.tok 0]) (σ.setMu st.length none) w (env.set d (.slice (.own st.length 0) z [])) t.tmps := by
    have h4 := hR.ext hX
    refine ⟨by simpa using h4.1,fun i hi => ?_⟩
    simp only [List.length_set] at hi
    by_cases e : d = i
    · subst e; simpa [List.getD_eq_getElem?_getD,hi] using hr2
    · have := h4.2 i hi
      simpa [List.getD_eq_getElem?_getD,List.getElem?_set_ne e] using this
  exact wp_mono (h _ _ t hI' hR' hd) fun e a w hp => hp.ext hX
theorem ACalls_congr {f : FuncId} {args args' : List SV} {K : SV → St → Prop} {st : St} (h : args = args') : ACalls P f args K st = ACalls P f args' K st := by rw [h]
theorem AWp_congr {c : Code} {Q : Exit → List SV → St → Prop} {env env' : List SV} {st st' : St} (h : env = env') (h' : st = st') : AWp P c Q env st = AWp P c Q env' st' := by rw [h,h']
attribute [congr] ACalls_congr AWp_congr
theorem bif_true (a b : Bool) : (bif a then true else b) = (a || b) := by cases a <;> rfl
theorem bif_false (a b : Bool) : (bif a then b else false) = (a && b) := by cases a <;> rfl
section eqs
variable {M : List Nat} {K : SV → St → Prop} {env env' : List SV} {st st' : St} {ds ds' : List (Option Tmp)} {l l' : List Oper} {N : List SV → St → Prop} {o : Oper} {kd kd' : Kd} {g g' : Bool}
theorem opsSpec_congr (h1 : ds = ds') (h2 : l = l') (h3 : env = env') (h4 : st = st') : opsSpec P M ds l env st N = opsSpec P M ds' l' env' st' N := by rw [h1,h2,h3,h4]
theorem kdSpec_congr (h3 : env = env') (h4 : st = st') (h5 : kd = kd') : kdSpec P M o env st N kd = kdSpec P M o env' st' N kd' := by rw [h3,h4,h5]
theorem gdSpec_congr (h3 : env = env') (h4 : st = st') (h6 : g = g') (h5 : kd = kd') : gdSpec P M o env st g N kd = gdSpec P M o env' st' g' N kd' := by rw [h3,h4,h5,h6]
theorem effSpec_congr (h3 : env = env') (h4 : st = st') : effSpec P M o env st K = effSpec P M o env' st' K := by rw [h3,h4]
theorem drawSpec_congr {N : List SV → Prop} (h1 : ds = ds') (h2 : l = l') (h3 : env = env') (h4 : st = st') : drawSpec P M ds l env st N = drawSpec P M ds' l' env' st' N := by rw [h1,h2,h3,h4]
theorem d1Spec_congr {N : SV → Prop} (h1 : ds = ds') (h3 : env = env') (h4 : st = st') : d1Spec P M ds o env st N = d1Spec P M ds' o env' st' N := by rw [h1,h3,h4]
theorem dkSpec_congr {N : SV → Prop} (h3 : env = env') (h4 : st = st') (h5 : kd = kd') : dkSpec P M o env st N kd = dkSpec P M o env' st' N kd' := by rw [h3,h4,h5]
theorem dgSpec_congr {N : SV → Prop} (h3 : env = env') (h4 : st = st') (h6 : g = g') (h5 : kd = kd') : dgSpec P M o env st g N kd = dgSpec P M o env' st' g' N kd' := by rw [h3,h4,h5,h6]
theorem storeSpec_congr {t : TypeId} {y y' x x' : SV} {N : St → Prop} (h : st = st') (h1 : y = y') (h2 : x = x') : storeSpec P t st y x N = storeSpec P t st' y' x' N := by rw [h,h1,h2]
theorem appSpec_congr {t tx : TypeId} {y y' x x' : SV} (h : st = st') (h1 : x = x') (h2 : y = y') : appSpec P t tx st x y K = appSpec P t tx st' x' y' K := by rw [h,h1,h2]
theorem appObSpec_congr {t tx : TypeId} {y y' x x' : SV} (h : st = st') (h1 : x = x') (h2 : y = y') : appObSpec P t tx st x y K = appObSpec P t tx st' x' y' K := by rw [h,h1,h2]
theorem copySpec_congr {t : TypeId} {y y' x x' : SV} (h : st = st') (h1 : x = x') (h2 : y = y') : copySpec P t st x y K = copySpec P t st' x' y' K := by rw [h,h1,h2]
theorem makeSpec_congr {t : TypeId} {y y' x x' : SV} (h : st = st') (h1 : x = x') (h2 : y = y') : makeSpec P t st x y K = makeSpec P t st' x' y' K := by rw [h,h1,h2]
theorem clearSpec_congr {t : TypeId} {x x' : SV} (h : st = st') (h1 : x = x') : clearSpec P t st x K = clearSpec P t st' x' K := by rw [h,h1]
theorem capSpec_congr {t : TypeId} {x x' : SV} (h : st = st') (h1 : x = x') : capSpec P t st x K = capSpec P t st' x' K := by rw [h,h1]
attribute [congr] capSpec_congr appObSpec_congr copySpec_congr makeSpec_congr clearSpec_congr
theorem callSpec_congr {a a' : List SV} {x x' : SV} (h : a = a') (h1 : st = st') (h2 : x = x') : callSpec P a st x K = callSpec P a' st' x' K := by rw [h,h1,h2]
theorem calleeSpec_congr {mk ob : Bool} {a a' : List Operand} {t t' : List TypeId} {c c' : Callee} (h3 : env = env') (h4 : st = st') (h : a = a') (h1 : t = t') (h2 : c = c') : calleeSpec P o mk ob env st K a t c = calleeSpec P o mk ob env' st' K a' t' c' := by rw [h,h1,h2,h3,h4]
theorem biSpec_congr {mk ob : Bool} {a a' : List Operand} {t t' : List TypeId} {c : Builtin} (h3 : env = env') (h4 : st = st') (h : a = a') (h1 : t = t') : biSpec P o mk ob env st K c a t = biSpec P o mk ob env' st' K c a' t' := by rw [h,h1,h3,h4]
theorem cSpec_congr {c : Code} {Q : Exit → List SV → St → Prop} (h3 : env = env') (h4 : st = st') : cSpec P M c Q env st = cSpec P M c Q env' st' := by rw [h3,h4]
attribute [congr] opsSpec_congr kdSpec_congr gdSpec_congr effSpec_congr drawSpec_congr d1Spec_congr dkSpec_congr dgSpec_congr storeSpec_congr appSpec_congr callSpec_congr calleeSpec_congr biSpec_congr cSpec_congr
variable {t tx : TypeId} {k k' : IntKind} {m n i : Int} {s s' : ByteArray} {b b' c : Bool} {x y z : SV} {xs ys : List SV} {md md' : Mode} {zz z1 : Nat} {id off f j : Nat} {fn : Fn} {p : Prop} {v : Value}
@[go_sem] theorem binOk_int {op : BinOp} : binOk P op t (.sc (.int k m)) (.sc (.int k' n)) = (kindsOk op k k' ∧ binIntOk op n) := rfl
@[go_sem] theorem kinds_add : kindsOk .add k k' = (k = k') := rfl
@[go_sem] theorem kinds_sub : kindsOk .sub k k' = (k = k') := rfl
@[go_sem] theorem kinds_mul : kindsOk .mul k k' = (k = k') := rfl
@[go_sem] theorem kinds_quo : kindsOk .quo k k' = (k = k') := rfl
@[go_sem] theorem kinds_rem : kindsOk .rem k k' = (k = k') := rfl
@[go_sem] theorem kinds_eql : kindsOk .eql k k' = (k = k') := rfl
@[go_sem] theorem kinds_neq : kindsOk .neq k k' = (k = k') := rfl
@[go_sem] theorem kinds_lss : kindsOk .lss k k' = (k = k') := rfl
@[go_sem] theorem kinds_leq : kindsOk .leq k k' = (k = k') := rfl
@[go_sem] theorem kinds_gtr : kindsOk .gtr k k' = (k = k') := rfl
@[go_sem] theorem kinds_geq : kindsOk .geq k k' = (k = k') := rfl
@[go_sem] theorem kinds_and : kindsOk .and k k' = (k = k') := rfl
@[go_sem] theorem kinds_or : kindsOk .or k k' = (k = k') := rfl
@[go_sem] theorem kinds_xor : kindsOk .xor k k' = (k = k') := rfl
@[go_sem] theorem kinds_andNot : kindsOk .andNot k k' = (k = k') := rfl
@[go_sem] theorem kinds_shl : kindsOk .shl k k' = True := rfl
@[go_sem] theorem kinds_shr : kindsOk .shr k k' = True := rfl
@[go_sem] theorem binOk_str {op : BinOp} : binOk P op t (.sc (.string s)) (.sc (.string s')) = binStrOk op s s' := rfl
@[go_sem] theorem isEq_eql : isEq .eql = True := rfl
@[go_sem] theorem isEq_neq : isEq .neq = True := rfl
@[go_sem] theorem boolV_eql : boolV .eql b = b := rfl
@[go_sem] theorem boolV_neq : boolV .neq b = !b := rfl
@[go_sem] theorem binOk_bool {op : BinOp} : binOk P op t (.sc (.bool b)) (.sc (.bool b')) = (isEq op ∧ P.underlying t = some .bool) := rfl
@[go_sem] theorem binOk_agg {op : BinOp} {l r : List SV} : binOk P op t (.agg l) (.agg r) = (isEq op ∧ aggEqOk P t l r) := rfl
@[go_sem] theorem binV_agg {op : BinOp} {l r : List SV} : binV op (.agg l) (.agg r) = .sc (.bool (boolV op (svsEq l r))) := rfl
@[go_sem] theorem binV_int {op : BinOp} : binV op (.sc (.int k m)) (.sc (.int k' n)) = .sc (binIntV op k m n) := rfl
@[go_sem] theorem binV_str {op : BinOp} : binV op (.sc (.string s)) (.sc (.string s')) = .sc (binStrV op s s') := rfl
@[go_sem] theorem binV_bool {op : BinOp} : binV op (.sc (.bool b)) (.sc (.bool b')) = .sc (.bool (boolV op (b == b'))) := rfl
@[go_sem] theorem unOk_bool {op : UnOp} : unOk op (.sc (.bool b)) = (op = .not) := rfl
@[go_sem] theorem unOk_int {op : UnOp} : unOk op (.sc (.int k m)) = (op = .neg) := rfl
@[go_sem] theorem unV_bool {op : UnOp} : unV op (.sc (.bool b)) = .sc (.bool (!b)) := rfl
@[go_sem] theorem unV_int {op : UnOp} : unV op (.sc (.int k m)) = .sc (.int k (k.wrap (0 - m))) := rfl
@[go_sem] theorem loadOk_ref : loadOk P t st (.ref xs) = ((cellsOf P t xs).isSome = true) := rfl
@[go_sem] theorem loadOk_ptr : loadOk P t st (.ptr id off) = (isObj st id ∧ (cellsOf P t ((objAt st id).drop off)).isSome = true) := rfl
@[go_sem] theorem loadV_ref : loadV P t st (.ref xs) = (cellsOf P t xs).getD .any := rfl
@[go_sem] theorem loadV_ptr : loadV P t st (.ptr id off) = (cellsOf P t ((objAt st id).drop off)).getD .any := rfl
@[go_sem] theorem fieldOk_ref : fieldOk P t st f (.ref xs) = ((aField P t f).isSome = true ∧ ((aField P t f).getD (0,0)).2 ≠ 0) := rfl
@[go_sem] theorem fieldOk_ptr : fieldOk P t st f (.ptr id off) = ((aField P t f).isSome = true ∧ ((aField P t f).getD (0,0)).2 ≠ 0) := rfl
@[go_sem] theorem fieldV_ref : fieldV P t f (.ref xs) = .ref ((xs.drop ((aField P t f).getD (0,0)).1).take ((aField P t f).getD (0,0)).2) := rfl
@[go_sem] theorem fieldV_ptr : fieldV P t f (.ptr id off) = .ptr id (off + ((aField P t f).getD (0,0)).1) := rfl
@[go_sem] theorem idxOk_slice : idxOk P t st (.slice md zz xs) (.sc (.int k i)) = ((aElem P t).bind (aSize P) = some zz ∧ 0 ≤ i ∧ i < xs.length) := rfl
@[go_sem] theorem idxV_slice : idxV P t st (.slice md zz xs) (.sc (.int k i)) = .ref (xs.getD i.toNat .any).cells := rfl
@[go_sem] theorem lenOk_slice : lenOk P t st (.slice md zz xs) = ((aElem P t).isSome = true) := rfl
@[go_sem] theorem lenOk_str : lenOk P t st (.sc (.string s)) = (P.underlying t = some .string) := rfl
@[go_sem] theorem lenV_slice : lenV st (.slice md zz xs) = .sc (.int .i64 xs.length) := rfl
@[go_sem] theorem lenV_str : lenV st (.sc (.string s)) = .sc (.int .i64 s.size) := rfl
@[go_sem] theorem extOk_tuple : extOk j (.tuple xs) = (j < xs.length) := rfl
@[go_sem] theorem extV_tuple : extV j (.tuple xs) = xs.getD j .any := rfl
@[go_sem] theorem cutOk_slice {ρ : Operand → SV} {lo hi mx : Option Operand} : cutOk P t st ρ lo hi mx (.slice md zz xs) = (((aElem P t).bind (aSize P) = some zz ∨ (xs = [] ∧ (md = .full ∨ md = .imm) ∧ ((aElem P t).bind (aSize P)).isSome = true)) ∧ (bound ρ lo 0).isSome = true ∧ (bound ρ hi xs.length).isSome = true ∧
    0 ≤ bndI ρ lo 0 ∧ bndI ρ lo 0 ≤ bndI ρ hi xs.length ∧ bndI ρ hi xs.length ≤ xs.length ∧ (mx.isSome = true → hi.isSome = true ∧ bound ρ mx 0 = bound ρ hi xs.length)) := rfl
@[go_sem] theorem cutV_slice {ρ : Operand → SV} {lo hi mx : Option Operand} : cutV P t ρ lo hi mx (.slice md zz xs) = .slice (if mx.isSome then .full else .imm) zz ((xs.take (bndI ρ hi xs.length).toNat).drop (bndI ρ lo 0).toNat) := rfl
@[go_sem] theorem cutOk_str {ρ : Operand → SV} {lo hi mx : Option Operand} : cutOk P t st ρ lo hi mx (.sc (.string s)) = (mx = none ∧ P.underlying t = some .string ∧ (bound ρ lo 0).isSome = true ∧ (bound ρ hi s.size).isSome = true ∧
    0 ≤ bndI ρ lo 0 ∧ bndI ρ lo 0 ≤ bndI ρ hi s.size ∧ bndI ρ hi s.size ≤ s.size) := rfl
@[go_sem] theorem cutV_str {ρ : Operand → SV} {lo hi mx : Option Operand} : cutV P t ρ lo hi mx (.sc (.string s)) = .sc (.string (s.extract (bndI ρ lo 0).toNat (bndI ρ hi s.size).toNat)) := rfl
@[go_sem] theorem bound_none {ρ : Operand → SV} {d : Nat} : bound ρ none d = some (d : Int) := rfl
def intOfSV : SV → Option Int | .sc (.int _ n) => some n | _ => none
@[go_sem] theorem bound_some {ρ : Operand → SV} {d : Nat} {q : Operand} : bound ρ (some q) d = intOfSV (ρ q) := by
  simp only [bound]
  generalize ρ q = x
  cases x with
  | sc v => cases v <;> rfl
  | _ => rfl
@[go_sem] theorem intOf_sc : intOfSV (.sc (.int k n)) = some n := rfl
@[go_sem] theorem bndI_def {ρ : Operand → SV} {q : Option Operand} {d : Nat} : bndI ρ q d = (bound ρ q d).getD 0 := rfl
@[go_sem] theorem gValOk_b : gValOk (.sc (.bool b)) = True := rfl
@[go_sem] theorem gValOk_g : gValOk (.gd g (.sc (.bool b))) = True := rfl
attribute [go_sem] gVal_f gValOk_f
@[go_sem] theorem gVal_b : gVal c (.sc (.bool b)) = (b == c) := rfl
@[go_sem] theorem gVal_g : gVal c (.gd g (.sc (.bool b))) = (g && (b == c)) := rfl
@[go_sem] theorem gIf_gd : gIf p (.gd g x) = (p → g = true) := rfl
@[go_sem] theorem gIf_sc : gIf p (.sc v) = True := rfl
@[go_sem] theorem gIf_slice : gIf p (.slice md zz xs) = True := rfl
@[go_sem] theorem gIf_ref : gIf p (.ref xs) = True := rfl
@[go_sem] theorem gIf_ptr : gIf p (.ptr id off) = True := rfl
@[go_sem] theorem gIf_agg : gIf p (.agg xs) = True := rfl
@[go_sem] theorem gIf_func : gIf p (.func fn xs ys) = True := rfl
@[go_sem] theorem gIf_tuple : gIf p (.tuple xs) = True := rfl
@[go_sem] theorem strip_gd : strip (.gd g x) = x := rfl
@[go_sem] theorem strip_sc : strip (.sc v) = .sc v := rfl
@[go_sem] theorem strip_slice : strip (.slice md zz xs) = .slice md zz xs := rfl
@[go_sem] theorem strip_ref : strip (.ref xs) = .ref xs := rfl
@[go_sem] theorem strip_ptr : strip (.ptr id off) = .ptr id off := rfl
@[go_sem] theorem strip_agg : strip (.agg xs) = .agg xs := rfl
@[go_sem] theorem strip_func : strip (.func fn xs ys) = .func fn xs ys := rfl
@[go_sem] theorem strip_tuple : strip (.tuple xs) = .tuple xs := rfl
@[go_sem] theorem pickOk_b : pickOk (.sc (.bool b)) x y = (gIf (b = true) x ∧ gIf (b = false) y) := rfl
@[go_sem] theorem pickV_b : pickV (.sc (.bool b)) x y = pickB b (strip x) (strip y) := rfl
@[go_sem] theorem pickB_b : pickB c (.sc (.bool b)) (.sc (.bool b')) = .sc (.bool (bif c then b else b')) := rfl
@[go_sem] theorem isB_b : isB (.sc (.bool b)) = True := rfl
@[go_sem] theorem bOf_b : bOf (.sc (.bool b)) = b := rfl
@[go_sem] theorem cells_agg : (SV.agg xs).cells = xs := rfl
@[go_sem] theorem cells_sc : (SV.sc v).cells = [.sc v] := rfl
@[go_sem] theorem cells_slice : (SV.slice md zz xs).cells = [.slice md zz xs] := rfl
@[go_sem] theorem cells_ref : (SV.ref xs).cells = [.ref xs] := rfl
@[go_sem] theorem cells_ptr : (SV.ptr id off).cells = [.ptr id off] := rfl
@[go_sem] theorem cells_func : (SV.func fn xs ys).cells = [.func fn xs ys] := rfl
@[go_sem] theorem shape_agg : shapeOk (.agg xs) = true := rfl
@[go_sem] theorem shape_slice : shapeOk (.slice md zz xs) = true := rfl
@[go_sem] theorem shape_ref : shapeOk (.ref xs) = true := rfl
@[go_sem] theorem shape_ptr : shapeOk (.ptr id off) = true := rfl
@[go_sem] theorem shape_func : shapeOk (.func fn xs ys) = true := rfl
@[go_sem] theorem shape_sc : shapeOk (.sc v) = v.oneCell' := rfl
@[go_sem] theorem cellOk_sc : cellOk (.sc v) = v.oneCell' := rfl
@[go_sem] theorem cellOk_slice : cellOk (.slice md zz xs) = true := rfl
@[go_sem] theorem cellOk_ref : cellOk (.ref xs) = true := rfl
@[go_sem] theorem cellOk_ptr : cellOk (.ptr id off) = true := rfl
@[go_sem] theorem cellOk_func : cellOk (.func fn xs ys) = true := rfl
@[go_sem] theorem one_int : (Value.int k n).oneCell' = true := rfl
@[go_sem] theorem one_bool : (Value.bool b).oneCell' = true := rfl
@[go_sem] theorem one_str : (Value.string s).oneCell' = true := rfl
@[go_sem] theorem one_ptr {a : Option Addr} : (Value.pointer a).oneCell' = true := rfl
@[go_sem] theorem elemOk_def : elemOk x = x.cells.all cellOk := rfl
@[go_sem] theorem norm1_slice : norm1 (.slice md zz xs) = .slice .imm zz xs := rfl
@[go_sem] theorem norm1_sc : norm1 (.sc v) = .sc v := rfl
@[go_sem] theorem norm1_ref : norm1 (.ref xs) = .ref xs := rfl
@[go_sem] theorem norm1_ptr : norm1 (.ptr id off) = .ptr id off := rfl
@[go_sem] theorem norm1_func : norm1 (.func fn xs ys) = .func fn xs ys := rfl
@[go_sem] theorem norm1_agg : norm1 (.agg xs) = .agg xs := rfl
@[go_sem] theorem norm_agg : norm (.agg xs) = .agg (xs.map norm1) := rfl
@[go_sem] theorem norm_tuple : norm (.tuple xs) = .tuple (xs.map norm1) := rfl
@[go_sem] theorem norm_slice : norm (.slice md zz xs) = .slice .imm zz xs := rfl
@[go_sem] theorem norm_sc : norm (.sc v) = .sc v := rfl
@[go_sem] theorem norm_ref : norm (.ref xs) = .ref xs := rfl
@[go_sem] theorem norm_ptr : norm (.ptr id off) = .ptr id off := rfl
@[go_sem] theorem norm_func : norm (.func fn xs ys) = .func fn xs ys := rfl
variable {len cap id' off' len' cap' z0 : Nat}
@[go_sem] theorem idxOk_slc : idxOk P t st (.slc id zz off len cap) (.sc (.int k i)) = ((aElem P t).bind (aSize P) = some zz ∧ 0 ≤ i ∧ i < len) := rfl
@[go_sem] theorem idxV_slc : idxV P t st (.slc id zz off len cap) (.sc (.int k i)) = .ptr id (off + i.toNat * zz) := rfl
@[go_sem] theorem lenOk_slc : lenOk P t st (.slc id zz off len cap) = ((aElem P t).isSome = true) := rfl
@[go_sem] theorem lenV_slc : lenV st (.slc id zz off len cap) = .sc (.int .i64 len) := rfl
@[go_sem] theorem cutOk_slc {ρ : Operand → SV} {lo hi mx : Option Operand} : cutOk P t st ρ lo hi mx (.slc id zz off len cap) = (mx = none ∧ (aElem P t).bind (aSize P) = some zz ∧ (bound ρ lo 0).isSome = true ∧ (bound ρ hi len).isSome = true ∧
    0 ≤ bndI ρ lo 0 ∧ bndI ρ lo 0 ≤ bndI ρ hi len ∧ bndI ρ hi len ≤ cap) := rfl
@[go_sem] theorem cutV_slc {ρ : Operand → SV} {lo hi mx : Option Operand} : cutV P t ρ lo hi mx (.slc id zz off len cap) = .slc id zz (if cap = (bndI ρ lo 0).toNat then off else off + (bndI ρ lo 0).toNat * zz) ((bndI ρ hi len).toNat - (bndI ρ lo 0).toNat) (cap - (bndI ρ lo 0).toNat) := rfl
@[go_sem] theorem gIf_slc : gIf p (.slc id zz off len cap) = True := rfl
@[go_sem] theorem strip_slc : strip (.slc id zz off len cap) = .slc id zz off len cap := rfl
@[go_sem] theorem cells_slc : (SV.slc id zz off len cap).cells = [.slc id zz off len cap] := rfl
@[go_sem] theorem shape_slc : shapeOk (.slc id zz off len cap) = true := rfl
@[go_sem] theorem cellOk_slc : cellOk (.slc id zz off len cap) = true := rfl
@[go_sem] theorem norm_slc : norm (.slc id zz off len cap) = .slc id zz off len cap := rfl
@[go_sem] theorem norm1_slc : norm1 (.slc id zz off len cap) = .slc id zz off len cap := rfl
@[go_sem] theorem cap_full {l : List SV} {z : Nat} : capSpec P t st (.slice .full z l) K = ((aElem P t).isSome = true ∧ K (.sc (.int .i64 l.length)) st) := rfl
@[go_sem] theorem copy_slice : copySpec P t st (.slc id zz off len cap) (.slice md z1 ys) K = (zz = z1 ∧ isObj st id ∧ (aElem P t).bind (aSize P) = some zz ∧ off + (min ys.length len) * zz ≤ (objAt st id).length ∧ (∀ s ∈ ys,elemOk s = true) ∧
      K (.sc (.int .i64 (min ys.length len : Nat))) (st.set id (.cells (splice (objAt st id) off ((ys.take (min ys.length len)).flatMap SV.cells))))) := rfl
@[go_sem] theorem copy_slc : copySpec P t st (.slc id zz off len cap) (.slc id' z1 off' len' cap') K = (zz = z1 ∧ isObj st id ∧ isObj st id' ∧ (aElem P t).bind (aSize P) = some zz ∧ off + (min len' len) * zz ≤ (objAt st id).length ∧
      off' + (min len' len) * zz ≤ (objAt st id').length ∧ (((objAt st id').drop off').take ((min len' len) * zz)).all cellOk = true ∧
      K (.sc (.int .i64 (min len' len : Nat))) (st.set id (.cells (splice (objAt st id) off (((objAt st id').drop off').take ((min len' len) * zz)))))) := rfl
@[go_sem] theorem clear_slc : clearSpec P t st (.slc id zz off len cap) K = (isObj st id ∧ (aElem P t).isSome = true ∧ ((aElem P t).bind (aZero P)).isSome = true ∧ off + len * (zerosOf P t).length ≤ (objAt st id).length ∧ (zerosOf P t).all cellOk = true ∧
      K .any (if len = 0 then st else st.set id (.cells (splice (objAt st id) off (zeroL (zerosOf P t) len))))) := rfl
@[go_sem] theorem make_int : makeSpec P t st (.sc (.int k n)) (.sc (.int k' m)) K = (((aElem P t).bind (aSize P)).isSome = true ∧ ((aElem P t).bind (aZero P)).map List.length = (aElem P t).bind (aSize P) ∧ ((aElem P t).bind (aBytes P)).isSome = true ∧
      0 ≤ n ∧ n ≤ m ∧ m ≤ 4611686018427387904 ∧ m.toNat * ((aElem P t).bind (aBytes P)).getD 0 ≤ 281474976710656 ∧
      K (.slc st.length (((aElem P t).bind (aSize P)).getD 0) 0 n.toNat m.toNat) (st ++ [.cells (zeroL (zerosOf P t) m.toNat)])) := rfl
@[go_sem] theorem appOb : appObSpec P t tx st (.slice .full z0 []) (.slice md zz ys) K = (ys ≠ [] ∧ AppOk P t tx zz ys.length ∧ ∀ cap,ys.length ≤ cap → K (.slc st.length zz 0 ys.length cap) (st ++ [.cells (ys.flatMap SV.cells ++ zeroL (zerosOf P t) (cap - ys.length))])) := rfl
@[go_sem] theorem app_full : appSpec P t tx st (.slice .full z1 xs) (.slice md zz ys) K = ((xs = [] ∨ z1 = zz) ∧ AppOk P t tx zz (xs.length + ys.length) ∧ K (.slice (.own st.length 0) zz (xs ++ ys)) (st ++ [.tok 0])) := rfl
@[go_sem] theorem app_own {ver : Nat} : appSpec P t tx st (.slice (.own id ver) zz xs) (.slice md z1 ys) K = ((ys = [] ∨ z1 = zz) ∧ tokAt st id ver ∧ AppOk P t tx zz (xs.length + ys.length) ∧
      (∀ s ∈ ys,elemOk s = true) ∧ K (.slice (.own id (ver + 1)) zz (xs ++ ys)) (st.set id (.tok (ver + 1)))) := rfl
variable {ver n' : Nat}
@[go_sem] theorem loadOk_aptr : loadOk P t st (.aptr id ver off) = (arrOk st id ver ∧ (cellsOf P t ((arrC st id).drop off)).isSome = true) := rfl
@[go_sem] theorem loadV_aptr : loadV P t st (.aptr id ver off) = (cellsOf P t ((arrC st id).drop off)).getD .any := rfl
@[go_sem] theorem fieldOk_aptr : fieldOk P t st f (.aptr id ver off) = (arrOk st id ver ∧ (aField P t f).isSome = true ∧ ((aField P t f).getD (0,0)).2 ≠ 0) := rfl
@[go_sem] theorem fieldV_aptr : fieldV P t f (.aptr id ver off) = .aptr id ver (off + ((aField P t f).getD (0,0)).1) := rfl
@[go_sem] theorem idxOk_arr : idxOk P t st (.arr id ver n') (.sc (.int k i)) = (arrOk st id ver ∧ (aElem P t).bind (aSize P) = some (arrZ st id) ∧ 0 ≤ i ∧ i < n') := rfl
@[go_sem] theorem idxV_arr : idxV P t st (.arr id ver n') (.sc (.int k i)) = .aptr id ver (i.toNat * arrZ st id) := rfl
@[go_sem] theorem lenOk_arr : lenOk P t st (.arr id ver n') = (arrOk st id ver ∧ (aElem P t).isSome = true) := rfl
@[go_sem] theorem lenV_arr : lenV st (.arr id ver n') = .sc (.int .i64 n') := rfl
@[go_sem] theorem cutOk_arr {ρ : Operand → SV} {lo hi mx : Option Operand} : cutOk P t st ρ lo hi mx (.arr id ver n') = (mx = none ∧ arrOk st id ver ∧ ((aElem P t).bind (aSize P)).isSome = true ∧ bound ρ lo 0 = some 0 ∧
    (bound ρ hi n').isSome = true ∧ 0 ≤ bndI ρ hi n' ∧ bndI ρ hi n' ≤ n') := rfl
@[go_sem] theorem cutV_arr {ρ : Operand → SV} {lo hi mx : Option Operand} : cutV P t ρ lo hi mx (.arr id ver n') = .arr id ver (bndI ρ hi n').toNat := rfl
@[go_sem] theorem cutOk_ptr {ρ : Operand → SV} {hi mx : Option Operand} : cutOk P t st ρ none hi mx (.ptr id off) = (mx = none ∧ hi = none ∧ (aArr P t).isSome = true) := by simp [cutOk]
@[go_sem] theorem cutOk_ptrL {ρ : Operand → SV} {hi mx : Option Operand} {y : Operand} : cutOk P t st ρ (some y) hi mx (.ptr id off) = (mx = none ∧ hi = none ∧ (aArr P t).isSome = true ∧ (bound ρ (some y) 0).isSome = true ∧ 0 ≤ bndI ρ (some y) 0 ∧ bndI ρ (some y) 0 ≤ ((aArr P t).getD (0,0)).1) := by simp [cutOk]
@[go_sem] theorem cutV_ptrL {ρ : Operand → SV} {hi mx : Option Operand} {y : Operand} : cutV P t ρ (some y) hi mx (.ptr id off) = .slc id ((aArr P t).getD (0,0)).2 (if ((aArr P t).getD (0,0)).1 = (bndI ρ (some y) 0).toNat then off else off + (bndI ρ (some y) 0).toNat * ((aArr P t).getD (0,0)).2) (((aArr P t).getD (0,0)).1 - (bndI ρ (some y) 0).toNat) (((aArr P t).getD (0,0)).1 - (bndI ρ (some y) 0).toNat) := rfl
@[go_sem] theorem cutV_ptr {ρ : Operand → SV} {hi mx : Option Operand} : cutV P t ρ none hi mx (.ptr id off) = .slc id ((aArr P t).getD (0,0)).2 off ((aArr P t).getD (0,0)).1 ((aArr P t).getD (0,0)).1 := rfl
@[go_sem] theorem gIf_arr : gIf p (.arr id ver n') = True := rfl
@[go_sem] theorem gIf_aptr : gIf p (.aptr id ver n') = True := rfl
@[go_sem] theorem strip_arr : strip (.arr id ver n') = .arr id ver n' := rfl
@[go_sem] theorem strip_aptr : strip (.aptr id ver n') = .aptr id ver n' := rfl
@[go_sem] theorem cells_arr : (SV.arr id ver n').cells = [.arr id ver n'] := rfl
@[go_sem] theorem cells_aptr : (SV.aptr id ver n').cells = [.aptr id ver n'] := rfl
@[go_sem] theorem shape_arr : shapeOk (.arr id ver n') = true := rfl
@[go_sem] theorem shape_aptr : shapeOk (.aptr id ver n') = true := rfl
@[go_sem] theorem cellOk_arr : cellOk (.arr id ver n') = true := rfl
@[go_sem] theorem cellOk_aptr : cellOk (.aptr id ver n') = true := rfl
@[go_sem] theorem norm_arr : norm (.arr id ver n') = .arr id ver n' := rfl
@[go_sem] theorem norm_aptr : norm (.aptr id ver n') = .aptr id ver n' := rfl
@[go_sem] theorem norm1_arr : norm1 (.arr id ver n') = .arr id ver n' := rfl
@[go_sem] theorem norm1_aptr : norm1 (.aptr id ver n') = .aptr id ver n' := rfl
@[go_sem] theorem app_arr : appSpec P t tx st (.arr id ver n') (.slice md z1 ys) K = ((ys = [] ∨ z1 = arrZ st id) ∧ arrOk st id ver ∧ AppOk P t tx (arrZ st id) (n' + ys.length) ∧
      (∀ s ∈ ys,elemOk s = true) ∧ K (.arr id (ver + 1) (n' + ys.length)) (st.set id (.arr (ver + 1) (arrZ st id) ((arrC st id).take (n' * arrZ st id) ++ ys.flatMap SV.cells)))) := rfl
@[go_sem] theorem store_aptr {N : St → Prop} : storeSpec P t st y (.aptr id ver off) N = (arrOk st id ver ∧ aSize P t = some y.cells.length ∧ shapeOk y = true ∧ elemOk y = true ∧ off + y.cells.length ≤ (arrC st id).length ∧
      N (st.set id (.arr ver (arrZ st id) (splice (arrC st id) off y.cells)))) := rfl
@[go_sem] theorem addrOk_aptr : addrOk st (.aptr id ver off) = arrOk st id ver := rfl
@[go_sem] theorem kind_max (x y : Operand) (ts : Array TypeId) : kindOf (.call ⟨.builtin .max,#[x,y],ts⟩) = .pure := rfl
@[go_sem] theorem ok_max {ρ : Operand → SV} (x y : Operand) (ts : Array TypeId) : okCore P st ρ (.call ⟨.builtin .max,#[x,y],ts⟩) = maxOk (ρ x) (ρ y) := rfl
@[go_sem] theorem val_max {ρ : Operand → SV} (x y : Operand) (ts : Array TypeId) : valCore P st ρ (.call ⟨.builtin .max,#[x,y],ts⟩) = maxV (ρ x) (ρ y) := rfl
@[go_sem] theorem maxOk_int {k' : IntKind} : maxOk (.sc (.int k m)) (.sc (.int k' n)) = True := rfl
@[go_sem] theorem maxV_int {k' : IntKind} : maxV (.sc (.int k m)) (.sc (.int k' n)) = .sc (.int k (if n > m then n else m)) := rfl
@[go_sem] theorem mk_full : appMkSpec P t tx st (.slice .full z0 []) (.slice md zz ys) K = (AppOk P t tx zz ys.length ∧ (∀ s ∈ ys,elemOk s = true) ∧ K (.arr st.length 1 ys.length) (st ++ [.arr 1 zz (ys.flatMap SV.cells)])) := rfl
@[go_sem] theorem mk_fromArr {id ver n' : Nat} : appMkSpec P t tx st (.slice .full z0 []) (.arr id ver n') K = (arrOk st id ver ∧ (chunksOf (arrZ st id) n' (arrC st id)).length = n' ∧ (chunksOf (arrZ st id) n' (arrC st id)).flatMap SV.cells = (arrC st id).take (n' * arrZ st id) ∧ (∀ x ∈ chunksOf (arrZ st id) n' (arrC st id),x.cells.length = arrZ st id ∧ elemOk x = true) ∧ AppOk P t tx (arrZ st id) n' ∧ K (.arr st.length 1 n') (st ++ [.arr 1 (arrZ st id) ((arrC st id).take (n' * arrZ st id))])) := rfl
@[go_sem] theorem mk_num {k : IntKind} {m : Int} : appMkSpec P t tx st (.slice .full z0 []) (.sc (.int k m)) K = (0 ≤ m ∧ NumOk P t tx m.toNat (((aElem P t).bind (aSize P)).getD 0) (zerosOf P t) ∧ K (.arr st.length 1 m.toNat) (st ++ [.arr 1 (((aElem P t).bind (aSize P)).getD 0) (zeroL (zerosOf P t) m.toNat)])) := rfl
@[go_sem] theorem mk_numS {k : IntKind} {m : Int} {a : Option Addr} {n c : Nat} : appMkSpec P t tx st (.sc (.slice a n c)) (.sc (.int k m)) K = (n = 0 ∧ c = 0 ∧ 0 ≤ m ∧ NumOk P t tx m.toNat (((aElem P t).bind (aSize P)).getD 0) (zerosOf P t) ∧ K (.arr st.length 1 m.toNat) (st ++ [.arr 1 (((aElem P t).bind (aSize P)).getD 0) (zeroL (zerosOf P t) m.toNat)])) := rfl
@[go_sem] theorem cap_sc {a : Option Addr} {n c : Nat} : capSpec P t st (.sc (.slice a n c)) K = ((aElem P t).isSome = true ∧ K (.sc (.int .i64 c)) st) := rfl
@[go_sem] theorem lenV_sc {a : Option Addr} {n c : Nat} : lenV st (.sc (.slice a n c)) = .sc (.int .i64 n) := rfl
@[go_sem] theorem lenOk_sc {a : Option Addr} {n c : Nat} : lenOk P t st (.sc (.slice a n c)) = ((aElem P t).isSome = true) := rfl
@[go_sem] theorem cutV_sc {ρ : Operand → SV} {lo hi mx : Option Operand} {a : Option Addr} {n c : Nat} : cutV P t ρ lo hi mx (.sc (.slice a n c)) = .sc (.slice a 0 0) := rfl
@[go_sem] theorem cutOk_sc {ρ : Operand → SV} {lo hi mx : Option Operand} {a : Option Addr} {n c : Nat} : cutOk P t st ρ lo hi mx (.sc (.slice a n c)) = (mx = none ∧ n = 0 ∧ c = 0 ∧ ((aElem P t).bind (aSize P)).isSome = true ∧ bound ρ lo 0 = some 0 ∧ bound ρ hi 0 = some 0) := rfl
@[go_sem] theorem mk_arr : appMkSpec P t tx st (.arr id ver n') (.slice md z1 ys) K = appSpec P t tx st (.arr id ver n') (.slice md z1 ys) K := rfl
theorem appMkSpec_congr {x x' y y' : SV} (h : st = st') (h1 : x = x') (h2 : y = y') : appMkSpec P t tx st x y K = appMkSpec P t tx st' x' y' K := by rw [h,h1,h2]
attribute [congr] appMkSpec_congr
theorem call_func {q : FuncId} {a : List SV} : callSpec P a st (.func (.func q) xs ys) K = (aBody P q = true ∧ ACalls P q (xs ++ a ++ ys) K st) := rfl
@[go_sem] theorem store_ptr {N : St → Prop} : storeSpec P t st y (.ptr id off) N = (isObj st id ∧ aSize P t = some y.cells.length ∧ shapeOk y = true ∧ elemOk y = true ∧ off + y.cells.length ≤ (objAt st id).length ∧
      N (st.set id (.cells (splice (objAt st id) off y.cells)))) := rfl
@[go_sem] theorem obj_last (l : List SV) : objAt (st ++ [.cells l]) st.length = l := by simp [objAt]
@[go_sem] theorem ev_tmp : ev env (.tmp j) = env.getD j .any := rfl
@[go_sem] theorem ev_func : ev env (.func j) = .func (.func j) [] [] := rfl
@[go_sem] theorem ev_int : ev env (.const (.int k n)) = .sc (.int k n) := rfl
@[go_sem] theorem ev_agg (vs : Array Value) : ev env (.const (.agg vs)) = .agg (vs.toList.map svOf1) := rfl
@[go_sem] theorem svOf1_int : svOf1 (.int k n) = .sc (.int k n) := rfl
@[go_sem] theorem svOf1_bool : svOf1 (.bool b) = .sc (.bool b) := rfl
@[go_sem] theorem svOf1_str : svOf1 (.string s) = .sc (.string s) := rfl
@[go_sem] theorem svOf1_nil : svOf1 (.slice none 0 0) = .slice .full 0 [] := rfl
@[go_sem] theorem svOf1_ptr : svOf1 (.pointer none) = .sc (.pointer none) := rfl
@[go_sem] theorem ev_bool : ev env (.const (.bool b)) = .sc (.bool b) := rfl
@[go_sem] theorem ev_str : ev env (.const (.string s)) = .sc (.string s) := rfl
@[go_sem] theorem ev_nilslice : ev env (.const (.slice none 0 0)) = .slice .full 0 [] := rfl
@[go_sem] theorem ev_nilptr : ev env (.const (.pointer none)) = .sc (.pointer none) := rfl
def resCell (P : Program) (T : TypeId) (st : St) : SV → Option SV
  | .ptr id off => match st[id]? with
    | some (.cells l) => cellsOf P T (l.drop off)
    | _ => none
  | .ref l => cellsOf P T l
  | _ => none
@[go_sem] theorem res_cell {q : Nat} : aRes1 P env st (.cell q t) = resCell P t st (env.getD q .any) := by
  simp only [aRes1,resCell]
  cases env.getD q .any <;> rfl
theorem res_ptr (ho : isObj st id) : resCell P t st (.ptr id off) = cellsOf P t ((objAt st id).drop off) := by simp only [resCell,obj_of ho]
attribute [go_sem] res_ptr
@[go_sem] theorem res_ref : resCell P t st (.ref xs) = cellsOf P t xs := rfl
@[go_sem] theorem one_one : oneOf [x] = x := rfl
@[go_sem] theorem one_many : oneOf (x :: y :: xs) = .tuple (x :: y :: xs) := rfl
@[go_sem] theorem res_tmp : aRes1 P env st (.tmp j) = some (env.getD j .any) := rfl
end eqs
section eqs2
variable {M : List Nat} {K : SV → St → Prop} {env : List SV} {st : St} {ds : List (Option Tmp)} {N : List SV → St → Prop} {d : Option Tmp} {op : Op} {ty : TypeId} {pos : String} {aft : Array Edge} {gu : Option (Nat × Bool)} {g want : Bool} {r : List Oper} {ρ : Operand → SV} {t : TypeId} {j f : Nat} {fn : Fn} {Q : Exit → List SV → St → Prop}
@[go_sem] theorem kind_move (x : Operand) : kindOf (.move x) = .pure := rfl
@[go_sem] theorem ok_move (x : Operand) : okCore P st ρ (.move x) = (True) := rfl
@[go_sem] theorem val_move (x : Operand) : valCore P st ρ (.move x) = ρ x := rfl
@[go_sem] theorem kind_assign (x : Operand) : kindOf (.assign x) = .pure := rfl
@[go_sem] theorem ok_assign (x : Operand) : okCore P st ρ (.assign x) = (True) := rfl
@[go_sem] theorem val_assign (x : Operand) : valCore P st ρ (.assign x) = ρ x := rfl
@[go_sem] theorem kind_extract (x : Operand) : kindOf (.extract x j) = .pure := rfl
@[go_sem] theorem ok_extract (x : Operand) : okCore P st ρ (.extract x j) = (extOk j (ρ x)) := rfl
@[go_sem] theorem val_extract (x : Operand) : valCore P st ρ (.extract x j) = extV j (ρ x) := rfl
@[go_sem] theorem kind_binOp {op : BinOp} {u : TypeId} (x y : Operand) : kindOf (.binOp op t x y u) = .pure := rfl
@[go_sem] theorem ok_binOp {op : BinOp} {u : TypeId} (x y : Operand) : okCore P st ρ (.binOp op t x y u) = (if nilConst y then nilOk P op t y (ρ x) else binOk P op t (ρ x) (ρ y)) := rfl
@[go_sem] theorem val_binOp {op : BinOp} {u : TypeId} (x y : Operand) : valCore P st ρ (.binOp op t x y u) = (if nilConst y then nilV op (ρ x) else binV op (ρ x) (ρ y)) := rfl
@[go_sem] theorem kind_unOp {op : UnOp} (x : Operand) : kindOf (.unOp op t x) = .pure := rfl
@[go_sem] theorem ok_unOp {op : UnOp} (x : Operand) : okCore P st ρ (.unOp op t x) = (unOk op (ρ x)) := rfl
@[go_sem] theorem val_unOp {op : UnOp} (x : Operand) : valCore P st ρ (.unOp op t x) = unV op (ρ x) := rfl
@[go_sem] theorem kind_makeFunc (fi ca : Array Operand) : kindOf (.makeFunc fn fi ca) = .pure := rfl
@[go_sem] theorem ok_makeFunc (fi ca : Array Operand) : okCore P st ρ (.makeFunc fn fi ca) = (True) := rfl
@[go_sem] theorem val_makeFunc (fi ca : Array Operand) : valCore P st ρ (.makeFunc fn fi ca) = .func fn (fi.toList.map ρ) (ca.toList.map ρ) := rfl
@[go_sem] theorem kind_nilCheck (x : Operand) : kindOf (.nilCheck x) = .pure := rfl
@[go_sem] theorem ok_nilCheck (x : Operand) : okCore P st ρ (.nilCheck x) = addrOk st (ρ x) := rfl
@[go_sem] theorem val_nilCheck (x : Operand) : valCore P st ρ (.nilCheck x) = ρ x := rfl
@[go_sem] theorem addrOk_ref {xs : List SV} : addrOk st (.ref xs) = True := rfl
@[go_sem] theorem addrOk_ptr {id off : Nat} : addrOk st (.ptr id off) = True := rfl
@[go_sem] theorem kind_load (x : Operand) : kindOf (.load t x) = .pure := rfl
@[go_sem] theorem ok_load (x : Operand) : okCore P st ρ (.load t x) = (loadOk P t st (ρ x)) := rfl
@[go_sem] theorem val_load (x : Operand) : valCore P st ρ (.load t x) = loadV P t st (ρ x) := rfl
@[go_sem] theorem kind_fieldAddr (x : Operand) : kindOf (.fieldAddr t x f) = .pure := rfl
@[go_sem] theorem ok_fieldAddr (x : Operand) : okCore P st ρ (.fieldAddr t x f) = (fieldOk P t st f (ρ x)) := rfl
@[go_sem] theorem val_fieldAddr (x : Operand) : valCore P st ρ (.fieldAddr t x f) = fieldV P t f (ρ x) := rfl
@[go_sem] theorem kind_field (x : Operand) : kindOf (.field t x f) = .pure := rfl
@[go_sem] theorem ok_field (x : Operand) : okCore P st ρ (.field t x f) = (fldOk P t f (ρ x)) := rfl
@[go_sem] theorem val_field (x : Operand) : valCore P st ρ (.field t x f) = fldV P t f (ρ x) := rfl
@[go_sem] theorem kind_indexAddr (x y : Operand) : kindOf (.indexAddr t x y) = .pure := rfl
@[go_sem] theorem idxOk_ptr {id off : Nat} {k : IntKind} {i : Int} : idxOk P t st (.ptr id off) (.sc (.int k i)) = ((aArr P t).isSome = true ∧ 0 ≤ i ∧ i < ((aArr P t).getD (0,0)).1) := rfl
@[go_sem] theorem idxV_ptr {id off : Nat} {k : IntKind} {i : Int} : idxV P t st (.ptr id off) (.sc (.int k i)) = .ptr id (off + i.toNat * ((aArr P t).getD (0,0)).2) := rfl
@[go_sem] theorem kind_index (x y : Operand) : kindOf (.index t x y) = .pure := rfl
@[go_sem] theorem ok_index (x y : Operand) : okCore P st ρ (.index t x y) = (ixOk P t (ρ x) (ρ y)) := rfl
@[go_sem] theorem val_index (x y : Operand) : valCore P st ρ (.index t x y) = ixV (ρ x) (ρ y) := rfl
@[go_sem] theorem ixOk_agg {l : List SV} {k : IntKind} {i : Int} : ixOk P t (.agg l) (.sc (.int k i)) = ((aArr1 P t).isSome = true ∧ 0 ≤ i ∧ i < (aArr1 P t).getD 0 ∧ (aArr1 P t).getD 0 ≤ l.length) := rfl
@[go_sem] theorem ixOk_str {s : ByteArray} {k : IntKind} {i : Int} : ixOk P t (.sc (.string s)) (.sc (.int k i)) = (P.underlying t = some .string ∧ 0 ≤ i ∧ i < s.size) := rfl
@[go_sem] theorem ixV_agg {l : List SV} {k : IntKind} {i : Int} : ixV (.agg l) (.sc (.int k i)) = l.getD i.toNat .any := rfl
@[go_sem] theorem ixV_str {s : ByteArray} {k : IntKind} {i : Int} : ixV (.sc (.string s)) (.sc (.int k i)) = .sc (.int .u8 ((s.get! i.toNat).toNat : Int)) := rfl
@[go_sem] theorem ok_indexAddr (x y : Operand) : okCore P st ρ (.indexAddr t x y) = (idxOk P t st (ρ x) (ρ y)) := rfl
@[go_sem] theorem val_indexAddr (x y : Operand) : valCore P st ρ (.indexAddr t x y) = idxV P t st (ρ x) (ρ y) := rfl
@[go_sem] theorem kind_slice (x : Operand) (lo hi mx : Option Operand) : kindOf (.slice t x lo hi mx) = .pure := rfl
@[go_sem] theorem ok_slice (x : Operand) (lo hi mx : Option Operand) : okCore P st ρ (.slice t x lo hi mx) = (cutOk P t st ρ lo hi mx (ρ x)) := rfl
@[go_sem] theorem val_slice (x : Operand) (lo hi mx : Option Operand) : valCore P st ρ (.slice t x lo hi mx) = cutV P t ρ lo hi mx (ρ x) := rfl
@[go_sem] theorem kind_pick (c x y : Operand) : kindOf (.pick c x y) = .pick c x y := rfl
@[go_sem] theorem kind_alloc : kindOf (.alloc t) = .eff := rfl
@[go_sem] theorem kind_box (x : Operand) : kindOf (.box t x) = .eff := rfl
@[go_sem] theorem kind_build (p : Array (Nat × Operand)) : kindOf (.build t p) = .eff := rfl
@[go_sem] theorem kind_buildSlice (n : Nat) (p : Array (Nat × Operand)) : kindOf (.buildSlice t n p) = .eff := rfl
@[go_sem] theorem kind_store (x y : Operand) : kindOf (.store t x y) = .eff := rfl
@[go_sem] theorem kind_call (c : Operand) (a : Array Operand) (ts : Array TypeId) : kindOf (.call ⟨.value c,a,ts⟩) = .eff := rfl
@[go_sem] theorem kind_append (a : Array Operand) (ts : Array TypeId) : kindOf (.call ⟨.builtin .append,a,ts⟩) = .eff := rfl
@[go_sem] theorem kind_len (a : Array Operand) (ts : Array TypeId) : kindOf (.call ⟨.builtin .len,a,ts⟩) = .pure := rfl
@[go_sem] theorem ok_len (x : Operand) (t : TypeId) : okCore P st ρ (.call ⟨.builtin .len,#[x],#[t]⟩) = lenOk P t st (ρ x) := rfl
@[go_sem] theorem val_len (x : Operand) (t : TypeId) : valCore P st ρ (.call ⟨.builtin .len,#[x],#[t]⟩) = lenV st (ρ x) := rfl
@[go_sem] theorem ops_nil : opsSpec P M ds [] env st N = N env st := rfl
@[go_sem] theorem ops_none : opsSpec P M ds (⟨d,op,ty,pos,aft,none⟩ :: r) env st N = kdSpec P M ⟨d,op,ty,pos,aft,none⟩ env st (fun e s => opsSpec P M ds r e s N) (kindOf op) := rfl
@[go_sem] theorem ops_some : opsSpec P M ds (⟨d,op,ty,pos,aft,some (j,want)⟩ :: r) env st N = (gValOk (gSlot ds j env) ∧ gdSpec P M ⟨d,op,ty,pos,aft,some (j,want)⟩ env st (gVal want (gSlot ds j env)) (fun e s => opsSpec P M ds r e s N) (kindOf op)) := rfl
@[go_sem] theorem kd_pure : kdSpec P M ⟨d,op,ty,pos,aft,gu⟩ env st N .pure = (okCore P st (ev env) op ∧ N (putE env d (valCore P st (ev env) op)) st) := rfl
@[go_sem] theorem kd_pick (c x y : Operand) : kdSpec P M ⟨d,op,ty,pos,aft,gu⟩ env st N (.pick c x y) = (pickOk (ev env c) (ev env x) (ev env y) ∧ N (putE env d (pickV (ev env c) (ev env x) (ev env y))) st) := rfl
@[go_sem] theorem kd_eff : kdSpec P M ⟨d,op,ty,pos,aft,gu⟩ env st N .eff = effSpec P M ⟨d,op,ty,pos,aft,gu⟩ env st (fun x s => N (putE env d x) s) := rfl
@[go_sem] theorem gd_pure : gdSpec P M ⟨d,op,ty,pos,aft,gu⟩ env st g N .pure = (gAll (g = true) env op.operands.toList ∧ (g = true → okCore P st (fun y => strip (ev env y)) op) ∧ N (putE env d (.gd g (valCore P st (fun y => strip (ev env y)) op))) st) := rfl
@[go_sem] theorem gd_pick (c x y : Operand) : gdSpec P M ⟨d,op,ty,pos,aft,gu⟩ env st g N (.pick c x y) = (gIf (g = true) (ev env c) ∧ (g = true → pickOk (strip (ev env c)) (ev env x) (ev env y)) ∧ N (putE env d (.gd g (pickV (strip (ev env c)) (ev env x) (ev env y)))) st) := rfl
@[go_sem] theorem gd_eff : gdSpec P M ⟨d,op,ty,pos,aft,gu⟩ env st g N .eff = (gAll (g = true) env op.operands.toList ∧ (g = true → effSpec P M ⟨d,op,ty,pos,aft,gu⟩ (stripAt (opTmps op.operands.toList) 0 env) st fun x s => N (putE env d x) s) ∧ (g = false → N (putE env d .any) st)) := rfl
@[go_sem] theorem dr_nil {D : List SV → Prop} : drawSpec P M ds [] env st D = D env := rfl
@[go_sem] theorem dr_cons {D : List SV → Prop} : drawSpec P M ds (⟨d,op,ty,pos,aft,gu⟩ :: r) env st D = d1Spec P M ds ⟨d,op,ty,pos,aft,gu⟩ env st (fun x => drawSpec P M ds r (putE env d x) st D) := rfl
@[go_sem] theorem d1_none {D : SV → Prop} : d1Spec P M ds ⟨d,op,ty,pos,aft,none⟩ env st D = dkSpec P M ⟨d,op,ty,pos,aft,none⟩ env st D (kindOf op) := rfl
@[go_sem] theorem d1_some {D : SV → Prop} : d1Spec P M ds ⟨d,op,ty,pos,aft,some (j,want)⟩ env st D = (gValOk (gSlot ds j env) ∧ dgSpec P M ⟨d,op,ty,pos,aft,some (j,want)⟩ env st (gVal want (gSlot ds j env)) D (kindOf op)) := rfl
@[go_sem] theorem dk_pure {D : SV → Prop} : dkSpec P M ⟨d,op,ty,pos,aft,gu⟩ env st D .pure = (okCore P st (ev env) op ∧ D (valCore P st (ev env) op)) := rfl
@[go_sem] theorem dk_pick {D : SV → Prop} (c x y : Operand) : dkSpec P M ⟨d,op,ty,pos,aft,gu⟩ env st D (.pick c x y) = (pickOk (ev env c) (ev env x) (ev env y) ∧ D (pickV (ev env c) (ev env x) (ev env y))) := rfl
theorem dk_eff {D : SV → Prop} : dkSpec P M ⟨d,op,ty,pos,aft,gu⟩ env st D .eff = ∃ X,effSpec P M ⟨d,op,ty,pos,aft,gu⟩ (onlyAt (opTmps op.operands.toList) 0 env) st (Kept st X) ∧ D X := rfl
@[go_sem] theorem dg_pure {D : SV → Prop} : dgSpec P M ⟨d,op,ty,pos,aft,gu⟩ env st g D .pure = (gAll (g = true) env op.operands.toList ∧ (g = true → okCore P st (fun y => strip (ev env y)) op) ∧ D (.gd g (valCore P st (fun y => strip (ev env y)) op))) := rfl
@[go_sem] theorem dg_pick {D : SV → Prop} (c x y : Operand) : dgSpec P M ⟨d,op,ty,pos,aft,gu⟩ env st g D (.pick c x y) = (gIf (g = true) (ev env c) ∧ (g = true → pickOk (strip (ev env c)) (ev env x) (ev env y)) ∧ D (.gd g (pickV (strip (ev env c)) (ev env x) (ev env y)))) := rfl
theorem dg_eff {D : SV → Prop} : dgSpec P M ⟨d,op,ty,pos,aft,gu⟩ env st g D .eff = (gAll (g = true) env op.operands.toList ∧ ∃ X,(g = true → effSpec P M ⟨d,op,ty,pos,aft,gu⟩ (stripAt (opTmps op.operands.toList) 0 (onlyAt (opTmps op.operands.toList) 0 env)) st (Kept st X)) ∧ D (.gd g X)) := rfl
@[go_sem] theorem eff_store (x y : Operand) : effSpec P M ⟨d,.store t x y,ty,pos,aft,gu⟩ env st K = (d = none ∧ storeSpec P t st (ev env y) (ev env x) (K .any ·)) := rfl
@[go_sem] theorem eff_box (x : Operand) : effSpec P M ⟨d,.box t x,ty,pos,aft,gu⟩ env st K = (shapeOk (ev env x) = true ∧ if M.contains (d.getD 0) then K (.ptr st.length 0) (st ++ [.cells (ev env x).cells]) else K (.ref (ev env x).cells) st) := rfl
@[go_sem] theorem eff_alloc : effSpec P M ⟨d,.alloc t,ty,pos,aft,gu⟩ env st K = ((aZero P t).isSome = true ∧ K (.ptr st.length 0) (st ++ [.cells ((aZero P t).getD [])])) := rfl
@[go_sem] theorem eff_build (ps : Array (Nat × Operand)) : effSpec P M ⟨d,.build t ps,ty,pos,aft,gu⟩ env st K = (aFieldsOk P t = true ∧ (aBuild P t (ps.toList.map fun p => (p.1,ev env p.2))).isSome = true ∧ K (.agg ((aBuild P t (ps.toList.map fun p => (p.1,ev env p.2))).getD [])) st) := rfl
@[go_sem] theorem eff_buildSlice (n : Nat) (ps : Array (Nat × Operand)) : effSpec P M ⟨d,.buildSlice t n ps,ty,pos,aft,gu⟩ env st K = (((aElem P t).bind (aSize P)).isSome = true ∧ ((aElem P t).bind (aZero P)).map List.length = (aElem P t).bind (aSize P) ∧ ps.toList.map (·.1) = List.range n ∧
      n * ((aElem P t).bind (aSize P)).getD 0 ≤ 16777216 ∧ (∀ p ∈ ps.toList,shapeOk (ev env p.2) = true ∧ (ev env p.2).cells.length = ((aElem P t).bind (aSize P)).getD 0) ∧
      if M.contains (d.getD 0 + 1000000) then K (.arr st.length 1 n) (st ++ [.arr 1 (((aElem P t).bind (aSize P)).getD 0) ((ps.toList.map fun p => norm (ev env p.2)).flatMap SV.cells)]) else
        K (.slice .full (((aElem P t).bind (aSize P)).getD 0) (ps.toList.map fun p => norm (ev env p.2))) st) := rfl
@[go_sem] theorem eff_call (c : Operand) (a : Array Operand) (ts : Array TypeId) : effSpec P M ⟨d,.call ⟨.value c,a,ts⟩,ty,pos,aft,gu⟩ env st K = callSpec P (a.toList.map (ev env)) st (ev env c) K := rfl
@[go_sem] theorem eff_append (x y : Operand) (t tx : TypeId) : effSpec P M ⟨d,.call ⟨.builtin .append,#[x,y],#[t,tx]⟩,ty,pos,aft,gu⟩ env st K = if M.contains (d.getD 0 + 1000000) then appMkSpec P t tx st (ev env x) (ev env y) K else if M.contains (d.getD 0) then appObSpec P t tx st (ev env x) (ev env y) K else appSpec P t tx st (ev env x) (ev env y) K := rfl
@[go_sem] theorem eff_cap (x : Operand) (t : TypeId) : effSpec P M ⟨d,.call ⟨.builtin .cap,#[x],#[t]⟩,ty,pos,aft,gu⟩ env st K = capSpec P t st (ev env x) K := rfl
@[go_sem] theorem eff_copy (x y : Operand) (t tx : TypeId) : effSpec P M ⟨d,.call ⟨.builtin .copy,#[x,y],#[t,tx]⟩,ty,pos,aft,gu⟩ env st K = copySpec P t st (ev env x) (ev env y) K := rfl
@[go_sem] theorem eff_clear (x : Operand) (t : TypeId) : effSpec P M ⟨d,.call ⟨.builtin .clear,#[x],#[t]⟩,ty,pos,aft,gu⟩ env st K = clearSpec P t st (ev env x) K := rfl
@[go_sem] theorem eff_make (x y : Operand) : effSpec P M ⟨d,.makeSlice t x y,ty,pos,aft,gu⟩ env st K = makeSpec P t st (ev env x) (ev env y) K := rfl
@[go_sem] theorem kind_make (x y : Operand) : kindOf (.makeSlice t x y) = .eff := rfl
@[go_sem] theorem kind_copy (a : Array Operand) (ts : Array TypeId) : kindOf (.call ⟨.builtin .copy,a,ts⟩) = .eff := rfl
@[go_sem] theorem kind_clear (a : Array Operand) (ts : Array TypeId) : kindOf (.call ⟨.builtin .clear,a,ts⟩) = .eff := rfl
@[go_sem] theorem c_skip : cSpec P M .skip Q env st = Q .normal env st := rfl
@[go_sem] theorem c_region (id : Nat) (ops : Array Oper) : cSpec P M (.region id ops false) Q env st = opsSpec P M (ops.toList.map (·.dst)) ops.toList env st (Q .normal) := rfl
theorem c_draw (id : Nat) (ops : Array Oper) : cSpec P M (.region id ops true) Q env st = AWp P (.region id ops true) Q env st := rfl
@[go_sem] theorem dE_nil {ops : Array Oper} {ks el : List Nat} {R : St → Prop} {s0 : St} {i : Nat} : drawE P M ops ks el R s0 i [] env st N = N env st := rfl
@[go_sem] theorem c_seq (a b : Code) : cSpec P M (.seq a b) Q env st = cSpec P M a (thenQ (cSpec P M b Q) Q) env st := rfl
@[go_sem] theorem c_cond (c : Operand) (x y : Code) : cSpec P M (.cond c x y) Q env st = (isB (ev env c) ∧ (bOf (ev env c) = true → cSpec P M x Q env st) ∧ (bOf (ev env c) = false → cSpec P M y Q env st)) := rfl
@[go_sem] theorem c_block (id : Nat) (c : Code) : cSpec P M (.block id c) Q env st = cSpec P M c (blockQ id Q) env st := rfl
@[go_sem] theorem c_exit (id : Nat) : cSpec P M (.exit id) Q env st = Q (.exit id) env st := rfl
@[go_sem] theorem c_ret : cSpec P M .ret Q env st = Q .ret env st := rfl
@[go_sem] theorem c_label (l : Nat) : cSpec P M (.label l) Q env st = Q .normal env st := rfl
theorem c_loop (c : Code) : cSpec P M (.loop c) Q env st = AWp P (.loop c) Q env st := rfl
@[go_sem] theorem then_n {nx : List SV → St → Prop} : thenQ nx Q .normal = nx := rfl
@[go_sem] theorem then_r {nx : List SV → St → Prop} : thenQ nx Q .ret = Q .ret := rfl
@[go_sem] theorem then_e {nx : List SV → St → Prop} (id : Nat) : thenQ nx Q (.exit id) = Q (.exit id) := rfl
@[go_sem] theorem block_n (id : Nat) : blockQ id Q .normal = Q .normal := rfl
@[go_sem] theorem block_r (id : Nat) : blockQ id Q .ret = Q .ret := rfl
@[go_sem] theorem block_e (id id' : Nat) : blockQ id Q (.exit id') = fun e s => if id' = id then Q .normal e s else Q (.exit id') e s := rfl
@[go_sem] theorem ret_n (rs : List ResultVar) : RetR P rs K .normal = fun env st => (aResL P env st rs).isSome = true ∧ K (oneOf ((aResL P env st rs).getD [])) st := rfl
@[go_sem] theorem ret_r (rs : List ResultVar) : RetR P rs K .ret = fun env st => (aResL P env st rs).isSome = true ∧ K (oneOf ((aResL P env st rs).getD [])) st := rfl
@[go_sem] theorem put_some (n : Nat) (x : SV) : putE env (some n) x = env.set n x := rfl
@[go_sem] theorem put_none' (x : SV) : putE env none x = env := rfl
def cellsX : Option Bool → Option Nat → List SV → Option SV
  | some true,some n,l => if n ≤ l.length then some (.agg (l.take n)) else none
  | some false,_,l => if 0 < l.length then some (l.getD 0 .any) else none
  | _,_,_ => none
@[go_sem] theorem cellsOf_cons {t : TypeId} {x : SV} {l : List SV} : cellsOf P t (x :: l) = cellsX (aAgg P t) (aSize P t) (x :: l) := by
  unfold cellsOf cellsX
  cases aAgg P t with
  | none => rfl
  | some b => cases b <;> cases aSize P t <;> rfl
@[go_sem] theorem cellsX_one {q : Option Nat} {x : SV} {l : List SV} : cellsX (some false) q (x :: l) = some x := rfl
@[go_sem] theorem cellsX_many {n : Nat} {l : List SV} : cellsX (some true) (some n) l = if n ≤ l.length then some (.agg (l.take n)) else none := rfl
@[go_sem] theorem take_len_map {α : Type} (l : List α) (f : α → SV) : (l.map f).take l.length = l.map f := List.take_of_length_le (by simp)
end eqs2
attribute [go_sem] aResL Bool.and_true Bool.true_and Bool.and_self binIntOk binIntV binStrOk binStrV gSlot gAll Op.operands Call.operands stripAt onlyAt opTmps splice aFill aBuild aPart bif_true bif_false List.getD_cons_succ List.getD_cons_zero List.set_cons_succ List.set_cons_zero List.length_cons List.length_nil List.map_cons List.map_nil List.cons_append List.nil_append List.append_nil List.getElem?_cons_succ List.getElem?_cons_zero List.drop_zero List.drop_succ_cons List.take_succ_cons List.take_zero Option.getD_some Option.isSome_some Option.map_some Option.bind_some Option.isSome_none Option.isNone_none List.contains_nil List.contains_cons List.all_cons List.all_nil List.length_append List.length_map List.length_set List.length_replicate List.range_zero eq_self false_or true_or or_true or_false true_and and_true if_true if_false Bool.false_eq_true ne_eq not_false_eq_true Nat.zero_lt_succ List.replicate
theorem ex_self (st : St) : (∃ ex,st = st ++ ex) = True := eq_true ⟨[],by simp⟩
theorem ex_app (st ex : St) : (∃ e,st ++ ex = st ++ e) = True := eq_true ⟨ex,rfl⟩
theorem ids_sc (n : Nat) (v : Value) : Ids n (.sc v) = True := eq_true (.sc v)
theorem ids_tuple (n : Nat) (l : List SV) : Ids n (.tuple l) = ∀ x ∈ l,Ids n x := by
  apply propext
  constructor
  · intro h x hx
    cases h with
    | tuple l h =>
      obtain ⟨i,hi⟩ := List.getElem?_of_mem hx
      have := h i (lt_of_get hi)
      rwa [List.getD_eq_getElem?_getD,hi] at this
  · intro h
    refine .tuple l fun i hi => ?_
    rw [List.getD_eq_getElem?_getD,List.getElem?_eq_getElem hi]
    exact h _ (List.getElem_mem hi)
theorem ids_agg (n : Nat) (l : List SV) : Ids n (.agg l) = ∀ x ∈ l,Ids n x := by
  apply propext
  constructor
  · intro h x hx
    cases h with
    | agg l h =>
      obtain ⟨i,hi⟩ := List.getElem?_of_mem hx
      have := h i (lt_of_get hi)
      rwa [List.getD_eq_getElem?_getD,hi] at this
  · intro h
    refine .agg l fun i hi => ?_
    rw [List.getD_eq_getElem?_getD,List.getElem?_eq_getElem hi]
    exact h _ (List.getElem_mem hi)
theorem ids_slice {n : Nat} {m : Mode} {z : Nat} {l : List SV} (hm : m = .imm ∨ m = .full) (h : ∀ x ∈ l,∀ y ∈ x.cells,Ids n y) : Ids n (.slice m z l) := by
  refine .slice m z l (fun id ver e => by rcases hm with rfl | rfl <;> cases e) fun i j hi hj => ?_
  have hx : l.getD i .any ∈ l := by
    rw [List.getD_eq_getElem?_getD,List.getElem?_eq_getElem hi]; exact List.getElem_mem hi
  by_cases hc : j < (l.getD i .any).cells.length
  · have hy : (l.getD i .any).cells.getD j .any ∈ (l.getD i .any).cells := by
      rw [List.getD_eq_getElem?_getD (l := (l.getD i .any).cells),List.getElem?_eq_getElem hc]; exact List.getElem_mem hc
    exact h _ hx _ hy
  · rw [List.getD_eq_getElem?_getD (l := (l.getD i .any).cells),List.getElem?_eq_none (Nat.not_lt.1 hc)]; exact .any
theorem forall_nil {α : Type} (p : α → Prop) : (∀ x ∈ ([] : List α),p x) = True := eq_true (fun x hx => by cases hx)
theorem obj_app' (s : St) (l : List Ob) (k : Nat) : objAt (s ++ l) (s.length + k) = objAt l k := by simp [objAt,List.getElem?_append_right]
theorem isObj_app' (s : St) (l : List Ob) (k : Nat) : isObj (s ++ l) (s.length + k) = isObj l k := by simp [isObj,List.getElem?_append_right]
theorem tok_app' (s : St) (l : List Ob) (k v : Nat) : tokAt (s ++ l) (s.length + k) v = tokAt l k v := by simp [tokAt,List.getElem?_append_right]
theorem set_app' (s : St) (l : List Ob) (k : Nat) (x : Ob) : (s ++ l).set (s.length + k) x = s ++ l.set k x := by simp
theorem obj_app (s : St) (l : List Ob) : objAt (s ++ l) s.length = objAt l 0 := obj_app' s l 0
theorem isObj_app (s : St) (l : List Ob) : isObj (s ++ l) s.length = isObj l 0 := isObj_app' s l 0
theorem tok_app (s : St) (l : List Ob) (v : Nat) : tokAt (s ++ l) s.length v = tokAt l 0 v := tok_app' s l 0 v
theorem set_app (s : St) (l : List Ob) (x : Ob) : (s ++ l).set s.length x = s ++ l.set 0 x := set_app' s l 0 x
theorem obj_zero (c : List SV) (l : List Ob) : objAt (.cells c :: l) 0 = c := rfl
theorem obj_succ (o : Ob) (l : List Ob) (k : Nat) : objAt (o :: l) (k + 1) = objAt l k := rfl
theorem isObj_zero (c : List SV) (l : List Ob) : isObj (.cells c :: l) 0 = True := rfl
theorem isObj_succ (o : Ob) (l : List Ob) (k : Nat) : isObj (o :: l) (k + 1) = isObj l k := rfl
theorem tok_zero (v v' : Nat) (l : List Ob) : tokAt (.tok v :: l) 0 v' = (v = v') := by simp [tokAt]
theorem tok_succ (o : Ob) (l : List Ob) (k v : Nat) : tokAt (o :: l) (k + 1) v = tokAt l k v := rfl
theorem beq_false' (a : Bool) : (a == false) = !a := by cases a <;> rfl
theorem beq_true' (a : Bool) : (a == true) = a := by cases a <;> rfl
theorem appOk_of {t tx e ex : TypeId} {z n by' : Nat} {zs : List SV} (he : aElem P t = some e) (hx : aElem P tx = some ex) (hz : aSize P e = some z) (hzs : aZero P e = some zs) (hl : zs.length = z)
    (hb : aBytes P e = some by') (h1 : by' ≤ 100000) (h2 : n ≤ 1000000) : AppOk P t tx z n :=
  ⟨by omega,e,ex,zs,by',he,hx,hz,hzs,hl,hb,by
    have : (2 * n + 192) * by' ≤ 2000192 * 100000 := Nat.mul_le_mul (by omega) h1
    omega⟩
attribute [go_sem] obj_app obj_app' isObj_app isObj_app' tok_app tok_app' set_app set_app' obj_zero obj_succ isObj_zero isObj_succ tok_zero tok_succ List.append_assoc Nat.add_assoc Nat.zero_add
attribute [go_sem] ex_self ex_app ids_sc ids_tuple ids_agg beq_false' beq_true' List.forall_mem_cons forall_nil Nat.one_ne_zero
@[go_sem] theorem toList_nilapp {α : Type} (l : List α) : ((#[] : Array α) ++ l.toArray).toList = l := by simp
@[go_sem] theorem nilConst_tmp (i : Nat) : nilConst (.tmp i) = false := rfl
@[go_sem] theorem nilConst_int (k : IntKind) (i : Int) : nilConst (.const (.int k i)) = false := rfl
@[go_sem] theorem nilConst_str (s : ByteArray) : nilConst (.const (.string s)) = false := rfl
@[go_sem] theorem nilConst_bool (b : Bool) : nilConst (.const (.bool b)) = false := rfl
@[go_sem] theorem nilConst_slice : nilConst (.const (.slice none 0 0)) = true := rfl
@[go_sem] theorem nilConst_func : nilConst (.const .nilFunc) = true := rfl
@[go_sem] theorem nilConst_ptr : nilConst (.const (.pointer none)) = true := rfl
section
variable {P : Program} {t : TypeId} {m : Mode} {z id off len cap : Nat} {l : List SV}
@[go_sem] theorem nilV_eql_slice : nilV .eql (.slice m z l) = .sc (.bool false) := rfl
@[go_sem] theorem nilV_eql_slc : nilV .eql (.slc id z off len cap) = .sc (.bool false) := rfl
@[go_sem] theorem nilV_eql_ref : nilV .eql (.ref l) = .sc (.bool false) := rfl
@[go_sem] theorem nilV_eql_ptr : nilV .eql (.ptr id off) = .sc (.bool false) := rfl
@[go_sem] theorem nilV_eql_nil : nilV .eql (.sc (.pointer none)) = .sc (.bool true) := rfl
@[go_sem] theorem nilV_neq_slice : nilV .neq (.slice m z l) = .sc (.bool true) := rfl
@[go_sem] theorem nilV_neq_slc : nilV .neq (.slc id z off len cap) = .sc (.bool true) := rfl
@[go_sem] theorem nilV_neq_ref : nilV .neq (.ref l) = .sc (.bool true) := rfl
@[go_sem] theorem nilV_neq_ptr : nilV .neq (.ptr id off) = .sc (.bool true) := rfl
@[go_sem] theorem nilV_neq_nil : nilV .neq (.sc (.pointer none)) = .sc (.bool false) := rfl
@[go_sem] theorem nilOk_eql_slice : nilOk P .eql t (.const (.slice none 0 0)) (.slice m z l) = (l ≠ [] ∧ (aElem P t).isSome = true) := by simp [nilOk]
@[go_sem] theorem nilOk_neq_slice : nilOk P .neq t (.const (.slice none 0 0)) (.slice m z l) = (l ≠ [] ∧ (aElem P t).isSome = true) := by simp [nilOk]
@[go_sem] theorem nilOk_eql_slc : nilOk P .eql t (.const (.slice none 0 0)) (.slc id z off len cap) = ((aElem P t).isSome = true) := by simp [nilOk]
@[go_sem] theorem nilOk_neq_slc : nilOk P .neq t (.const (.slice none 0 0)) (.slc id z off len cap) = ((aElem P t).isSome = true) := by simp [nilOk]
@[go_sem] theorem nilOk_eql_ref : nilOk P .eql t (.const (.pointer none)) (.ref l) = (aIsPtr P t = true) := by simp [nilOk]
@[go_sem] theorem nilOk_neq_ref : nilOk P .neq t (.const (.pointer none)) (.ref l) = (aIsPtr P t = true) := by simp [nilOk]
@[go_sem] theorem nilOk_eql_ptr : nilOk P .eql t (.const (.pointer none)) (.ptr id off) = (aIsPtr P t = true) := by simp [nilOk]
@[go_sem] theorem nilOk_neq_ptr : nilOk P .neq t (.const (.pointer none)) (.ptr id off) = (aIsPtr P t = true) := by simp [nilOk]
@[go_sem] theorem nilV_neq_func {fn : Fn} {a b : List SV} : nilV .neq (.func fn a b) = .sc (.bool true) := rfl
@[go_sem] theorem nilV_neq_nilf : nilV .neq (.sc .nilFunc) = .sc (.bool false) := rfl
@[go_sem] theorem nilV_eql_func {fn : Fn} {a b : List SV} : nilV .eql (.func fn a b) = .sc (.bool false) := rfl
@[go_sem] theorem nilV_eql_nilf : nilV .eql (.sc .nilFunc) = .sc (.bool true) := rfl
@[go_sem] theorem nilOk_neq_func {fn : Fn} {a b : List SV} : nilOk P .neq t (.const .nilFunc) (.func fn a b) = (aIsFunc P t = true) := by simp [nilOk]
@[go_sem] theorem nilOk_neq_nilf : nilOk P .neq t (.const .nilFunc) (.sc .nilFunc) = (aIsFunc P t = true) := by simp [nilOk]
@[go_sem] theorem nilOk_eql_func {fn : Fn} {a b : List SV} : nilOk P .eql t (.const .nilFunc) (.func fn a b) = (aIsFunc P t = true) := by simp [nilOk]
@[go_sem] theorem nilOk_eql_nilf : nilOk P .eql t (.const .nilFunc) (.sc .nilFunc) = (aIsFunc P t = true) := by simp [nilOk]
@[go_sem] theorem nilOk_eql_nil : nilOk P .eql t (.const (.pointer none)) (.sc (.pointer none)) = (aIsPtr P t = true) := by simp [nilOk]
@[go_sem] theorem nilOk_neq_nil : nilOk P .neq t (.const (.pointer none)) (.sc (.pointer none)) = (aIsPtr P t = true) := by simp [nilOk]
end
section
variable {P : Program} {t u : TypeId} {st : St} {ρ : Operand → SV}
@[go_sem] theorem kind_conv (x : Operand) : kindOf (.convert t u x) = .pure := rfl
@[go_sem] theorem ok_conv (x : Operand) : okCore P st ρ (.convert t u x) = convT P t st u (ρ x) := rfl
@[go_sem] theorem val_conv (x : Operand) : valCore P st ρ (.convert t u x) = convS P st u (ρ x) := rfl
@[go_sem] theorem convT_sc (v : Value) : convT P t st u (.sc v) = convOk P t u (.sc v) := rfl
@[go_sem] theorem convT_slice (m : Mode) (z : Nat) (l : List SV) : convT P t st u (.slice m z l) = convOk P t u (.slice m z l) := rfl
@[go_sem] theorem convT_slc (id z off len cap : Nat) : convT P t st u (.slc id z off len cap) = (isObj st id ∧ off + len ≤ (objAt st id).length ∧ (aElem P t).bind (aInt P) = some .u8 ∧ aIsText P u = true ∧ (((objAt st id).drop off).take len).all isByte = true) := rfl
@[go_sem] theorem convS_sc (v : Value) : convS P st u (.sc v) = convV P u (.sc v) := rfl
@[go_sem] theorem convS_slice (m : Mode) (z : Nat) (l : List SV) : convS P st u (.slice m z l) = convV P u (.slice m z l) := rfl
@[go_sem] theorem convS_slc (id z off len cap : Nat) : convS P st u (.slc id z off len cap) = .sc (.string (bytesV (((objAt st id).drop off).take len))) := rfl
@[go_sem] theorem convOk_int (k : IntKind) (n : Int) (h : (aInt P u).isSome = true) : convOk P t u (.sc (.int k n)) = ((aInt P t).isSome = true ∧ (aInt P u).isSome = true) := by simp only [convOk,h,true_or]
theorem convV_int {k' : IntKind} (k : IntKind) (n : Int) (h : aInt P u = some k') : convV P u (.sc (.int k n)) = .sc (.int k' (k'.wrap n)) := by simp [convV,h]
end
end Go.AL
namespace Go.AL
open Go
variable {P : Program}
def SVle (x y : SV) : Prop := ∀ (st : St) (σ : Sig) (w : World) (v : Value),Rep st σ w x v → Rep st σ w y v
theorem SVle.refl (x : SV) : SVle x x := fun _ _ _ _ h => h
theorem SVle.any (x : SV) : SVle x .any := fun _ _ _ v _ => .any v
theorem acalls_le {f : FuncId} {args : List SV} {K : SV → St → Prop} {st : St} (h : ACalls P f args (fun x s => ∃ y,SVle x y ∧ K y s) st) : ACalls P f args K st := by
  intro σ w vs hI hR
  refine (h σ w vs hI hR).mono ?_
  rintro e w' ⟨v,x,s,σ',he,⟨y,hle,hk⟩,hI',hr,hX⟩
  exact ⟨v,y,s,σ',he,hk,hI',hle _ _ _ _ hr,hX⟩
theorem SVle.nil (m : Mode) (z z' : Nat) (hm : m = .full ∨ m = .imm) : SVle (.slice m z []) (.slice m z' []) := fun _ _ _ _ h => rep_nil_z h hm
inductive SVles : List SV → List SV → Prop where
  | nil : SVles [] []
  | cons {x y : SV} {l r : List SV} : SVle x y → SVles l r → SVles (x :: l) (y :: r)
theorem SVles.len {l r : List SV} (h : SVles l r) : l.length = r.length := by
  induction h with
  | nil => rfl
  | cons _ _ ih => simp [ih]
theorem SVles.at {l r : List SV} (h : SVles l r) : ∀ i,SVle (l.getD i .any) (r.getD i .any) := by
  induction h with
  | nil => intro i; exact SVle.refl _
  | cons h1 _ ih =>
    intro i
    cases i with
    | zero => simpa using h1
    | succ i => simpa using ih i
theorem SVle.agg {l r : List SV} (h : SVles l r) : SVle (.agg l) (.agg r) := by
  intro st σ w v hv
  generalize hx : SV.agg l = x at hv
  cases hv with
  | agg l' vs h1 h2 =>
    cases hx
    exact .agg r vs (h1.trans h.len) fun i hi => h.at i _ _ _ _ (h2 i (by rw [h.len]; exact hi))
  | _ => cases hx
end Go.AL
