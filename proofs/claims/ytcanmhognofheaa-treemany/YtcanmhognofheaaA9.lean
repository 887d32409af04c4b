/- The abstract layer, part 40: functions that defer calls. -/
import Derived.Test.YtcanmhognofheaaA8
import Derived.Defers
import Derived.Scope
import Derived.Test.YtcanmhognofheaaA7
import Derived.Handed
import Derived.Test.YtcanmhognofheaaA6
set_option linter.all false
set_option linter.unusedVariables false
namespace Go.AL
open Go
variable {P : Program}
def RepDs (P : Program) (st : St) (σ : Sig) (w : World) : List (FuncId × List SV) → List Deferred → Prop
  | [],[] => True
  | q :: r,d :: ds => (∃ fv cap vs,d.target = .fn fv cap ∧ (∀ w' : World,(invoke (.fn fv cap) d.args).run P w' = .ok (.enter q.1 vs) w') ∧ RepArgs st σ w q.2 vs) ∧ RepDs P st σ w r ds
  | _,_ => False
theorem RepArgs.ext' {st st' : St} {σ σ' : Sig} {w w' : World} {xs : List SV} {vs : Array Value} (h : RepArgs st σ w xs vs) (hX : Ext st σ w st' σ' w') : RepArgs st' σ' w' xs vs :=
  ⟨h.1,fun i hi => (h.2 i hi).ext hX⟩
theorem RepDs.ext {st st' : St} {σ σ' : Sig} {w w' : World} (hX : Ext st σ w st' σ' w') : ∀ {l : List (FuncId × List SV)} {ds : List Deferred},RepDs P st σ w l ds → RepDs P st' σ' w' l ds
  | [],[],_ => trivial
  | q :: r,d :: ds,⟨⟨fv,cap,vs,h1,h2,h3⟩,h4⟩ => ⟨⟨fv,cap,vs,h1,h2,h3.ext' hX⟩,RepDs.ext hX h4⟩
def AWpD (P : Program) (c : Code) (Q : Exit → List SV → St → List (FuncId × List SV) → Prop) (env : List SV) (st : St) (ds : List (FuncId × List SV)) : Prop :=
  ∀ σ w a,Inv st σ w → RepEnv st σ w env a.tmps → RepDs P st σ w ds a.defers →
    c.wp P (fun e a' w' => ∃ env' st' σ' ds',Q e env' st' ds' ∧ Inv st' σ' w' ∧ RepEnv st' σ' w' env' a'.tmps ∧ RepDs P st' σ' w' ds' a'.defers ∧ Ext st σ w st' σ' w') a w
theorem AWpD.mono {c : Code} {Q Q' : Exit → List SV → St → List (FuncId × List SV) → Prop} {env : List SV} {st : St} {ds : List (FuncId × List SV)} (h : AWpD P c Q env st ds) (hq : ∀ e env st ds,Q e env st ds → Q' e env st ds) : AWpD P c Q' env st ds :=
  fun σ w a hI hR hD => wp_mono (h σ w a hI hR hD) fun e a' w' ⟨env',st',σ',ds',q,r⟩ => ⟨env',st',σ',ds',hq _ _ _ _ q,r⟩
end Go.AL
namespace Go.AL
variable {P : Program}
abbrev Pend := List Nat × Oper × List SV × SV
def pendAll (P : Program) (M : List Nat) (ds : List (Option Tmp)) (s : St) (j : Nat) : List Pend → Prop
  | [] => True
  | p :: r => (if p.1.contains j then d1Spec P M ds p.2.1 p.2.2.1 s (fun y => y = p.2.2.2) else True) ∧ pendAll P M ds s j r
def drawW (P : Program) (M : List Nat) (ds : List (Option Tmp)) : List (Nat × List Nat) → List Oper → List SV → St → List Pend → (List SV → St → Prop) → Prop
  | [],[],env,st,_,K => K env st
  | (0,[]) :: tg,o :: r,env,st,pd,K => d1Spec P M ds o env st fun x => drawW P M ds tg r (putE env o.dst x) st pd K
  | (0,a :: l) :: tg,o :: r,env,st,pd,K => d1Spec P M ds o env st fun x => drawW P M ds tg r (putE env o.dst x) st ((a :: l,o,env,x) :: pd) K
  | (1,l) :: tg,o :: r,env,st,pd,K => isStore o.op = true ∧ o.guard = none ∧ effSpec P M o (onlyAt (opTmps o.op.operands.toList) 0 env) st fun x s => pendAll P M ds s (l.headD 0) pd ∧ drawW P M ds tg r (putE env o.dst x) s pd K
  | (3,l) :: tg,o :: r,env,st,pd,K => ∃ X s',effSpec P M o (onlyAt (opTmps o.op.operands.toList) 0 env) st (fun x s => x = X ∧ s = s') ∧ o.guard = none ∧ pendAll P M ds s' (l.headD 0) pd ∧ drawW P M ds tg r (putE env o.dst X) s' pd K
  | _,_,_,_,_,_ => False
section
variable {M : List Nat} {ds : List (Option Tmp)} {st s : St} {tg : List (Nat × List Nat)} {o : Oper} {r : List Oper} {env e : List SV} {K : List SV → St → Prop} {pd : List Pend} {a j : Nat} {l : List Nat} {x : SV}
theorem drawW_n : drawW P M ds [] [] env st pd K = K env st := rfl
theorem drawW_0 : drawW P M ds ((0,[]) :: tg) (o :: r) env st pd K = d1Spec P M ds o env st fun x => drawW P M ds tg r (putE env o.dst x) st pd K := rfl
theorem drawW_2 : drawW P M ds ((0,a :: l) :: tg) (o :: r) env st pd K = d1Spec P M ds o env st fun x => drawW P M ds tg r (putE env o.dst x) st ((a :: l,o,env,x) :: pd) K := rfl
theorem drawW_1 : drawW P M ds ((1,l) :: tg) (o :: r) env st pd K = (isStore o.op = true ∧ o.guard = none ∧ effSpec P M o (onlyAt (opTmps o.op.operands.toList) 0 env) st fun x s => pendAll P M ds s (l.headD 0) pd ∧ drawW P M ds tg r (putE env o.dst x) s pd K) := rfl
theorem drawW_3 : drawW P M ds ((3,l) :: tg) (o :: r) env st pd K = ∃ X s',effSpec P M o (onlyAt (opTmps o.op.operands.toList) 0 env) st (fun x s => x = X ∧ s = s') ∧ o.guard = none ∧ pendAll P M ds s' (l.headD 0) pd ∧ drawW P M ds tg r (putE env o.dst X) s' pd K := rfl
theorem pend_n : pendAll P M ds s j [] = True := rfl
theorem pend_c : pendAll P M ds s j ((l,o,e,x) :: pd) = ((if l.contains j then d1Spec P M ds o e s (fun y => y = x) else True) ∧ pendAll P M ds s j pd) := rfl
theorem headD_c : (a :: l).headD j = a := rfl
end
def nextT (ks : List Nat) (n k : Nat) : Nat := (ks.find? (fun m => decide (k < m))).getD n
def tagsOkW (ks : List Nat) (sz : Nat) : Nat → List (Nat × List Nat) → Bool
  | _,[] => true
  | n,(t,l) :: r => (ks.contains n == (t == 1 || t == 3)) && (if t == 1 || t == 3 then l == [nextT ks sz n] else true) && tagsOkW ks sz (n + 1) r
def ksW : Nat → List (Nat × List Nat) → List Nat
  | _,[] => []
  | n,(t,_) :: r => if t == 1 || t == 3 then n :: ksW (n + 1) r else ksW (n + 1) r
theorem chainW {M : List Nat} {ops : Array Oper} {ks : List Nat} {K : List SV → St → Prop} : ∀ (n : Nat) (tg : List (Nat × List Nat)) (l : List Oper) (env : List SV) (st : St) (pd : List Pend),ops.toList.drop n = l → tagsOkW ks ops.size n tg = true →
    drawW P M (ops.toList.map (·.dst)) tg l env st pd K →
    ∃ (F : Nat → List SV) (G : Nat → St) (X : Nat → SV),F n = env ∧ G n = st ∧
      (∀ i o,n ≤ i → ops[i]? = some o → F (i + 1) = putE (F i) o.dst (X i) ∧
        (if ks.contains i then EffFact P ops (G i) (G (i + 1)) o (F i) (X i) else G (i + 1) = G i ∧ OpFact P ops (G i) o (F i) (X i) ∧
          ∀ k ∈ ks,i < k → k < ops.size → (tg.getD (i - n) (0,[])).2.contains (nextT ks ops.size k) = true → OpFact P ops (G (k + 1)) o (F i) (X i))) ∧
      (∀ p ∈ pd,∀ k ∈ ks,n ≤ k → k < ops.size → p.1.contains (nextT ks ops.size k) = true → OpFact P ops (G (k + 1)) p.2.1 p.2.2.1 p.2.2.2) ∧
      K (F (n + l.length)) (G (n + l.length))
  | n,[],[],env,st,pd,hl,ht,h => by
    have hn : ops.size ≤ n := by
      have h2 := congrArg List.length hl
      simp at h2
      omega
    refine ⟨fun _ => env,fun _ => st,fun _ => .any,rfl,rfl,fun i o hi ho => ?_,fun p hp k hk h1 h2 => by omega,h⟩
    have h1 := lt_of_some ho
    omega
  | n,(t,lt) :: tg,o :: r,env,st,pd,hl,htg,h => by
    have ho : ops[n]? = some o := by
      have : (ops.toList.drop n)[0]? = some o := by rw [hl]; rfl
      rw [List.getElem?_drop,Nat.add_zero,Array.getElem?_toList] at this
      exact this
    have hr : ops.toList.drop (n + 1) = r := by rw [← List.drop_drop,hl]; rfl
    simp only [tagsOkW,Bool.and_eq_true,beq_iff_eq] at htg
    obtain ⟨⟨t1,t2⟩,t3⟩ := htg
    have fin : ∀ (X0 : SV) (s' : St) (pd' : List Pend),drawW P M (ops.toList.map (·.dst)) tg r (putE env o.dst X0) s' pd' K → (∀ p ∈ pd,p ∈ pd') →
        (if ks.contains n then EffFact P ops st s' o env X0 else s' = st ∧ OpFact P ops st o env X0 ∧ (lt = [] ∨ (lt,o,env,X0) ∈ pd')) →
        (ks.contains n = true → ∀ p ∈ pd,p.1.contains (nextT ks ops.size n) = true → OpFact P ops s' p.2.1 p.2.2.1 p.2.2.2) →
        ∃ (F : Nat → List SV) (G : Nat → St) (X : Nat → SV),F n = env ∧ G n = st ∧
          (∀ i o,n ≤ i → ops[i]? = some o → F (i + 1) = putE (F i) o.dst (X i) ∧
            (if ks.contains i then EffFact P ops (G i) (G (i + 1)) o (F i) (X i) else G (i + 1) = G i ∧ OpFact P ops (G i) o (F i) (X i) ∧
              ∀ k ∈ ks,i < k → k < ops.size → (((t,lt) :: tg).getD (i - n) (0,[])).2.contains (nextT ks ops.size k) = true → OpFact P ops (G (k + 1)) o (F i) (X i))) ∧
          (∀ p ∈ pd,∀ k ∈ ks,n ≤ k → k < ops.size → p.1.contains (nextT ks ops.size k) = true → OpFact P ops (G (k + 1)) p.2.1 p.2.2.1 p.2.2.2) ∧
          K (F (n + (o :: r).length)) (G (n + (o :: r).length)) := by
      intro X0 s' pd' hrest hsub hfact hpend
      obtain ⟨F,G,X,f1,f2,f4,f6,f5⟩ := chainW (n + 1) tg r _ _ _ hr t3 hrest
      have hkb : ∀ k,n + 1 ≤ k → (if k + 1 = n then st else G (k + 1)) = G (k + 1) := fun k hk => if_neg (by omega)
      refine ⟨fun i => if i = n then env else F i,fun i => if i = n then st else G i,fun i => if i = n then X0 else X i,by simp,by simp,fun i p hi hp => ?_,fun p hp k hk h1 h2 h3 => ?_,?_⟩
      · by_cases e : i = n
        · subst e
          rw [ho] at hp; cases hp
          simp only [if_true,show ¬ i + 1 = i by omega,if_false]
          refine ⟨f1,?_⟩
          rw [f2]
          by_cases hc : ks.contains i = true
          · rw [if_pos hc] at hfact ⊢; exact hfact
          · rw [if_neg hc] at hfact ⊢
            refine ⟨hfact.1,hfact.2.1,fun k hk hik hks hcon => ?_⟩
            rw [hkb k hik]
            rw [Nat.sub_self] at hcon
            have hcon : lt.contains (nextT ks ops.size k) = true := hcon
            rcases hfact.2.2 with h0 | h0
            · rw [h0] at hcon; cases hcon
            · exact f6 _ h0 k hk (by omega) hks hcon
        · simp only [if_neg e,show ¬ i + 1 = n by omega,if_false]
          have h4 := f4 i p (by omega) hp
          refine ⟨h4.1,?_⟩
          by_cases hc : ks.contains i = true
          · rw [if_pos hc]; have := h4.2; rwa [if_pos hc] at this
          · rw [if_neg hc]
            have h5 := h4.2
            rw [if_neg hc] at h5
            refine ⟨h5.1,h5.2.1,fun k hk hik hks hcon => ?_⟩
            rw [hkb k (by omega)]
            refine h5.2.2 k hk hik hks ?_
            rw [show i - n = (i - (n + 1)) + 1 by omega] at hcon
            exact hcon
      · show OpFact P ops (if k + 1 = n then st else G (k + 1)) _ _ _
        rw [if_neg (by omega)]
        by_cases e : k = n
        · subst e
          rw [f2]
          exact hpend (by simpa using hk) p hp h3
        · exact f6 p (hsub p hp) k hk (by omega) h2 h3
      · simp only [List.length_cons]
        rw [if_neg (by omega),if_neg (by omega),show n + (r.length + 1) = n + 1 + r.length by omega]
        exact f5
    have turn : ∀ (X0 : SV) (s' : St),ks.contains n = true → effSpec P M o (onlyAt (opTmps o.op.operands.toList) 0 env) st (fun x s => x = X0 ∧ s = s') → o.guard = none →
        (if ks.contains n then EffFact P ops st s' o env X0 else s' = st ∧ OpFact P ops st o env X0 ∧ (lt = [] ∨ (lt,o,env,X0) ∈ pd)) := by
      intro X0 s' hk h1 h2
      rw [if_pos hk]
      intro σ w a env' hI hR hs hlen
      refine ⟨h2,fun _ _ _ => False,fun _ _ _ h => h,?_⟩
      refine upon_mono ?_ (fun _ _ _ h => h) (aop_eff h1 σ w a hI (rep_only hR hs hlen))
      rintro a' w' ⟨v,x,s1,σ',rfl,⟨rfl,rfl⟩,hI',hr',hX⟩
      exact ⟨v,σ',rfl,hI',hX,hr'⟩
    have pends : ∀ (s' : St) (q : List Pend),pendAll P M (ops.toList.map (·.dst)) s' (nextT ks ops.size n) q → ∀ p ∈ q,p.1.contains (nextT ks ops.size n) = true → OpFact P ops s' p.2.1 p.2.2.1 p.2.2.2 := by
      intro s' q
      induction q with
      | nil => intro _ p hp; cases hp
      | cons a q ih =>
        intro hq p hp hc
        rcases List.mem_cons.1 hp with rfl | hp
        · have h1 := hq.1
          rw [if_pos hc] at h1
          obtain ⟨X1,g1,rfl⟩ := fact_of h1
          exact g1
        · exact ih hq.2 p hp hc
    match t,lt,t1,t2,h with
    | 0,[],t1,t2,h =>
      rw [drawW_0] at h
      obtain ⟨X0,h1,h2⟩ := fact_of h
      have k1 : ks.contains n = false := t1
      refine fin X0 st pd h2 (fun p hp => hp) ?_ (fun hc => by rw [k1] at hc; cases hc)
      rw [k1]
      exact ⟨rfl,h1,.inl rfl⟩
    | 0,a :: l,t1,t2,h =>
      rw [drawW_2] at h
      obtain ⟨X0,h1,h2⟩ := fact_of h
      have k1 : ks.contains n = false := t1
      refine fin X0 st _ h2 (fun p hp => List.mem_cons_of_mem _ hp) ?_ (fun hc => by rw [k1] at hc; cases hc)
      rw [k1]
      exact ⟨rfl,h1,.inr (List.mem_cons_self ..)⟩
    | 1,l,t1,t2,h =>
      rw [drawW_1] at h
      obtain ⟨hs,hg,he⟩ := h
      obtain ⟨X0,s',h1,h2,h3⟩ := store_ext hs he
      have hl2 : l = [nextT ks ops.size n] := by simpa using t2
      rw [hl2] at h2
      exact fin X0 s' pd h3 (fun p hp => hp) (turn X0 s' t1 h1 hg) (fun _ => pends s' pd h2)
    | 3,l,t1,t2,h =>
      rw [drawW_3] at h
      obtain ⟨X0,s',h1,h2,h3,h4⟩ := h
      have hl2 : l = [nextT ks ops.size n] := by simpa using t2
      rw [hl2] at h3
      exact fin X0 s' pd h4 (fun p hp => hp) (turn X0 s' t1 h1 h2) (fun _ => pends s' pd h3)
    | 2,_,_,_,h => exact h.elim
    | n + 4,_,_,_,h => exact h.elim
  | n,[],o :: r,env,st,pd,hl,ht,h => h.elim
  | n,(0,[]) :: tg,[],env,st,pd,hl,ht,h => h.elim
  | n,(0,_ :: _) :: tg,[],env,st,pd,hl,ht,h => h.elim
  | n,(1,_) :: tg,[],env,st,pd,hl,ht,h => h.elim
  | n,(2,_) :: tg,[],env,st,pd,hl,ht,h => h.elim
  | n,(3,_) :: tg,[],env,st,pd,hl,ht,h => h.elim
  | n,(k + 4,_) :: tg,[],env,st,pd,hl,ht,h => h.elim
def tagsAllW (ops : Array Oper) (tags : List (Nat × List Nat)) : Bool :=
  flowOk ops && ordOk ops (ksW 0 tags) && (ksW 0 tags).all (· < ops.size) && tagsOkW (ksW 0 tags) ops.size 0 tags &&
  (List.range ops.size).all fun i => (ksW 0 tags).contains i || (ops.size :: ksW 0 tags).all fun j => !alwJ ops (ksW 0 tags) i j ||
    (decide (i ≤ j) && ((ksW 0 tags).all (fun m => !(decide (i ≤ m) && decide (m < j))) ||
      (tags.getD i (0,[])).2.contains j && (ksW 0 tags).any fun k => decide (i < k) && (nextT (ksW 0 tags) ops.size k == j) && decide (k < j) && (ksW 0 tags).all fun m => !(decide (k < m) && decide (m < j))))
theorem awp_drawW (M : List Nat) (tags : List (Nat × List Nat)) {id : Nat} {ops : Array Oper} {Q : Exit → List SV → St → Prop} {env : List SV} {st : St} (hm : P.follows .mixedOrders = true) (ht : tagsAllW ops tags = true)
    (h : drawW P M (ops.toList.map (·.dst)) tags ops.toList env st [] fun e s => Q .normal e s) : AWp P (.region id ops true) Q env st := by
  unfold tagsAllW at ht
  simp only [Bool.and_eq_true] at ht
  obtain ⟨⟨⟨⟨h1,h2⟩,h3⟩,h4⟩,h5⟩ := ht
  obtain ⟨F,G,X,f1,f2,f3,_,f5⟩ := chainW 0 tags ops.toList env st [] rfl h4 h
  generalize ksW 0 tags = ks at *
  have gconst : ∀ d a,a + d ≤ ops.size → (∀ k ∈ ks,¬ (a ≤ k ∧ k < a + d)) → G (a + d) = G a := by
    intro d
    induction d with
    | zero => intro a _ _; rfl
    | succ d ih =>
      intro a ha hno
      have h1 := ih a (by omega) (fun k hk hc => hno k hk (by omega))
      have hp : ops[a + d]? = some ops[a + d] := by simp [show a + d < ops.size by omega]
      have h2 := (f3 (a + d) _ (Nat.zero_le _) hp).2
      rw [if_neg (by
        intro hc
        exact hno (a + d) (by simpa using hc) (by omega))] at h2
      rw [show a + (d + 1) = a + d + 1 by omega,h2.1,h1]
  have gsame : ∀ a b,a ≤ b → b ≤ ops.size → (∀ k ∈ ks,¬ (a ≤ k ∧ k < b)) → G b = G a := by
    intro a b hab hb hno
    obtain ⟨d,rfl⟩ := Nat.exists_eq_add_of_le hab
    exact gconst d a hb hno
  refine awp_chain2 ks hm h1 h2 h3 ⟨F,G,X,f1,f2,fun i o hi ho => ⟨(f3 i o hi ho).1,?_⟩,f5⟩
  have hfact := (f3 i o hi ho).2
  by_cases hc : ks.contains i = true
  · rw [if_pos hc] at hfact ⊢; exact hfact
  · rw [if_neg hc] at hfact ⊢
    refine ⟨hfact.1,fun j hj ha => ?_⟩
    have hil := lt_of_some ho
    rw [List.all_eq_true] at h5
    have h6 := h5 i (by simpa using hil)
    rw [Bool.or_eq_true] at h6
    have h7 := h6.resolve_left hc
    rw [List.all_eq_true] at h7
    have h8 := h7 j (by rcases hj with h | h <;> simp [h])
    rw [ha] at h8
    simp only [Bool.not_true,Bool.false_or,Bool.and_eq_true,Bool.or_eq_true,decide_eq_true_eq] at h8
    have hjs : j ≤ ops.size := by
      rcases hj with h | h
      · omega
      · rw [List.all_eq_true] at h3; have := h3 j h; simp at this; omega
    obtain ⟨hij,h9 | ⟨h9,h10⟩⟩ := h8
    · rw [List.all_eq_true] at h9
      rw [gsame i j hij hjs fun k hk hcc => by
        have := h9 k hk
        simp only [Bool.not_eq_true',Bool.and_eq_false_iff,decide_eq_false_iff_not] at this
        omega]
      exact hfact.2.1
    · rw [List.any_eq_true] at h10
      obtain ⟨k,hk,h11⟩ := h10
      simp only [Bool.and_eq_true,decide_eq_true_eq,beq_iff_eq,List.all_eq_true] at h11
      obtain ⟨⟨⟨k1,k2⟩,k3⟩,k4⟩ := h11
      rw [gsame (k + 1) j k3 hjs fun m hm hcc => by
        have := k4 m hm
        simp only [Bool.not_eq_true',Bool.and_eq_false_iff,decide_eq_false_iff_not] at this
        omega]
      refine hfact.2.2 k hk k1 (by omega) ?_
      rw [k2]; exact h9
def fldOkO (P : Program) (l : List SV) : Option (Nat × TypeId) → Prop
  | some q => aAgg P q.2 = some false ∧ q.1 < l.length
  | none => False
def fldVO (l : List SV) : Option (Nat × TypeId) → SV
  | some q => l.getD q.1 .any
  | none => .any
section
variable {t : TypeId} {f : Nat} {l : List SV} {q : Nat × TypeId}
@[go_sem] theorem fldOk_aggO : fldOk P t f (.agg l) = fldOkO P l (aFieldT P t f) := by unfold fldOk fldOkO; cases aFieldT P t f <;> rfl
@[go_sem] theorem fldV_aggO : fldV P t f (.agg l) = fldVO l (aFieldT P t f) := by unfold fldV fldVO; cases aFieldT P t f <;> rfl
@[go_sem] theorem fldOkO_s : fldOkO P l (some q) = (aAgg P q.2 = some false ∧ q.1 < l.length) := rfl
@[go_sem] theorem fldVO_s : fldVO l (some q) = l.getD q.1 .any := rfl
end
end Go.AL
namespace Go.AL
variable {P : Program}
theorem awp_leC {c : Code} {Q : Exit → List SV → St → Prop} {env : List SV} {st : St} (id : Nat) {l l' : List SV} (hl : st[id]? = some (.cells l)) (hlen : l'.length = l.length) (hle : ∀ i,SVle (l.getD i .any) (l'.getD i .any))
    (h : AWp P c Q env (st.set id (.cells l'))) : AWp P c Q env st := by
  intro σ w t hI hR D hd
  obtain ⟨b,cs,T,h1,h2,h3,h4,h5⟩ := hI.cells id l hl
  have hX2 := Ext.write (w' := w) (l' := l') hI hl h1 h5 rfl rfl rfl rfl (fun _ _ => rfl)
  have hI2 := Inv.write (w' := w) (l' := l') hI hl h1 h5 rfl rfl rfl rfl (fun _ _ => rfl) h2 (by rw [hlen]; exact h3) (fun j hj => hle j _ _ _ _ (h4 j (by rw [← hlen]; exact hj)))
  exact wp_mono (h _ _ t hI2 (hR.ext hX2) hd) fun e a w hp => hp.ext hX2
def scopeQ (Q : Exit → List SV → St → Prop) : Exit → List SV → St → Prop
  | .goto _ => fun _ _ => False
  | e => Q e
@[go_sem] theorem scopeQ_n {Q : Exit → List SV → St → Prop} : scopeQ Q .normal = Q .normal := rfl
@[go_sem] theorem scopeQ_r {Q : Exit → List SV → St → Prop} : scopeQ Q .ret = Q .ret := rfl
@[go_sem] theorem scopeQ_e {Q : Exit → List SV → St → Prop} {id : Nat} : scopeQ Q (.exit id) = Q (.exit id) := rfl
theorem Inv.glob {st : St} {σ : Sig} {w : World} (hI : Inv st σ w) {id b : Nat} {v : Value} (h : st[id]? = some (.glob b v)) : w.cell? ⟨b,0,none⟩ = some v := (hI.globs id b v h).2.1
end Go.AL
namespace Go.AL
open Go Go.RowKit
variable {P : Program}
end Go.AL
namespace Go.AL
variable {P : Program}
theorem Ext.frz {st : St} {σ : Sig} {w : World} {b : Nat} (hb : ∀ i,i < st.length → σ.μ i ≠ some b) (hl : (σ.lock b).still = false) : Ext st σ w st (σ.setLock b .all) w where
  os := rfl
  tape := rfl
  output := rfl
  size := Nat.le_refl _
  lock := fun c o v h k => by
    refine ⟨?_,k⟩
    by_cases e : c = b
    · subst e; exact has_all σ c o
    · simp only [Sig.setLock,if_neg e]; exact h
  all := fun c hc hs => by
    have e : c ≠ b := by rintro rfl; rw [hl] at hs; cases hs
    exact ⟨by simp only [Sig.setLock,if_neg e],rfl⟩
  kcells := fun id l h => ⟨⟨l,h⟩,rfl⟩
  ktok := fun id v h => ⟨v,h,Nat.le_refl _,fun _ => ⟨rfl,fun c hc => by
    have e : c ≠ b := by rintro rfl; exact hb id (lt_of_get h) hc
    exact ⟨by simp only [Sig.setLock,if_neg e],rfl⟩⟩⟩
  karrs := fun id v z cs h => ⟨v,cs,h,Nat.le_refl _,fun _ => ⟨rfl,rfl,fun c vals T fr _ hh => ⟨vals,hh,rfl⟩⟩⟩
  kmaps := fun id es h => ⟨⟨es,h⟩,rfl,fun c ents clock _ hh => ⟨ents,clock,hh,Nat.le_refl _,fun _ _ => rfl⟩⟩
theorem Inv.frz {st : St} {σ : Sig} {w : World} {b : Nat} (hI : Inv st σ w) (hb : ∀ i,i < st.length → σ.μ i ≠ some b) (hl : (σ.lock b).still = false) (hlt : b < w.heap.size) : Inv st (σ.setLock b .all) w where
  cells := fun id l h => by
    obtain ⟨c,cs,T,h1,h2,h3,h4,h5⟩ := hI.cells id l h
    have e : c ≠ b := by rintro rfl; exact hb id (lt_of_get h) h1
    exact ⟨c,cs,T,h1,h2,h3,fun j hj => (h4 j hj).ext (Ext.frz hb hl),by simp only [Sig.setLock,if_neg e]; exact h5⟩
  tok := fun id v c h hc => by
    have e : c ≠ b := by rintro rfl; exact hb id (lt_of_get h) hc
    obtain ⟨h1,h2⟩ := hI.tok id v c h hc
    exact ⟨h1,by simp only [Sig.setLock,if_neg e]; exact h2⟩
  inj := hI.inj
  fresh := fun c hc => by
    have e : c ≠ b := by omega
    simp only [Sig.setLock,if_neg e]; exact hI.fresh c hc
  arrs := fun id v z cs h => by
    refine (hI.arrs id v z cs h).imp (fun h => h) fun ⟨c,vals,T,h1,h2,h3,h4,h5⟩ => ?_
    have e : c ≠ b := by rintro rfl; exact hb id (lt_of_get h) h1
    exact ⟨c,vals,T,h1,h2,h3,fun j hj => (h4 j hj).ext (Ext.frz hb hl),by simp only [Sig.setLock,if_neg e]; exact h5⟩
  maps := fun id es h => by
    obtain ⟨c,ents,clock,h1,h2,h3,h4⟩ := hI.maps id es h
    have e : c ≠ b := by rintro rfl; exact hb id (lt_of_get h) h1
    exact ⟨c,ents,clock,h1,h2,⟨h3.1,fun j hj => ⟨(h3.2.1 j hj).1,(h3.2.1 j hj).2.ext (Ext.frz hb hl)⟩,h3.2.2⟩,by simp only [Sig.setLock,if_neg e]; exact h4⟩
  globs := hI.globs_ext (Ext.frz hb hl) fun _ _ _ h => ⟨h,rfl⟩
theorem flat_at {z : Nat} : ∀ {xs : List SV} (_ : ∀ x ∈ xs,x.cells.length = z) {i j : Nat} (_ : i < xs.length) (_ : j < z),(xs.flatMap SV.cells).getD (i * z + j) .any = (xs.getD i .any).cells.getD j .any ∧ i * z + j < (xs.flatMap SV.cells).length
  | [],_,i,j,hi,_ => by cases hi
  | x :: xs,h,0,j,hi,hj => by
    have hx := h x List.mem_cons_self
    rw [Nat.zero_mul,Nat.zero_add,List.flatMap_cons]
    refine ⟨?_,by rw [List.length_append]; omega⟩
    simp only [List.getD_eq_getElem?_getD]
    rw [List.getElem?_append_left (by omega)]
    rfl
  | x :: xs,h,i + 1,j,hi,hj => by
    have hx := h x List.mem_cons_self
    obtain ⟨h1,h2⟩ := flat_at (xs := xs) (fun y hy => h y (List.mem_cons_of_mem _ hy)) (i := i) (j := j) (by simpa using hi) hj
    rw [List.flatMap_cons]
    have e : (i + 1) * z + j = z + (i * z + j) := by rw [Nat.add_mul,Nat.one_mul]; omega
    refine ⟨?_,by rw [List.length_append]; omega⟩
    rw [e]
    simp only [List.getD_eq_getElem?_getD] at h1 ⊢
    rw [List.getElem?_append_right (by omega),hx,Nat.add_sub_cancel_left,h1]
    rfl
end Go.AL
namespace Go.AL
variable {P : Program}
theorem lesRefl : ∀ l : List SV,SVles l l
  | [] => .nil
  | x :: r => .cons (SVle.refl x) (lesRefl r)
inductive LeE : List SV → List SV → Prop where
  | nil : LeE [] []
  | cons {x y : SV} {l r : List SV} : SVles x.cells y.cells → LeE l r → LeE (x :: l) (y :: r)
theorem LeE.len {l r : List SV} (h : LeE l r) : l.length = r.length := by
  induction h with
  | nil => rfl
  | cons _ _ ih => simp [ih]
theorem LeE.at {l r : List SV} (h : LeE l r) : ∀ i,SVles (l.getD i .any).cells (r.getD i .any).cells := by
  induction h with
  | nil => intro i; exact lesRefl _
  | cons h1 _ ih =>
    intro i
    cases i with
    | zero => simpa using h1
    | succ i => simpa using ih i
theorem LeE.refl : ∀ l : List SV,LeE l l
  | [] => .nil
  | x :: r => .cons (lesRefl _) (LeE.refl r)
theorem LeE.append {a b c d : List SV} (h : LeE a b) (h2 : LeE c d) : LeE (a ++ c) (b ++ d) := by
  induction h with
  | nil => exact h2
  | cons h1 _ ih => exact .cons h1 ih
theorem SVles.get {l r : List SV} (h : SVles l r) : r.length = l.length ∧ ∀ i,SVle (l.getD i .any) (r.getD i .any) := ⟨h.len.symm,h.at⟩
end Go.AL
namespace Go.AL
variable {P : Program}
end Go.AL
namespace Go.AL
variable {P : Program}
theorem frz_rep {s : St} {σ : Sig} {w : World} {aid ver n z : Nat} {xs cs : List SV} {v1 : Value} (hI : Inv s σ w) (hid : s[aid]? = some (.arr ver z cs)) (hfl : cs.take (n * z) = xs.flatMap SV.cells) (hlen : xs.length = n) (hcl : ∀ x ∈ xs,x.cells.length = z)
    (hlast : Rep s σ w (.arr aid ver n) v1) : ∃ σ2,Ext s σ w (s.set aid (.arr (ver + 1) z [])) σ2 w ∧ Inv (s.set aid (.arr (ver + 1) z [])) σ2 w ∧ Rep (s.set aid (.arr (ver + 1) z [])) σ2 w (.slice .imm z xs) v1 := by
  have hXn : Ext s σ w (s.set aid (.arr (ver + 1) z [])) (σ.setMu aid none) w := Ext.arrNew hid none
  have hIn : Inv (s.set aid (.arr (ver + 1) z [])) (σ.setMu aid none) w := hI.arrNew hid none (.inl ⟨rfl,rfl⟩) (fun c hc => by cases hc)
  suffices hh0 : ∃ σ2,Ext (s.set aid (.arr (ver + 1) z [])) (σ.setMu aid none) w (s.set aid (.arr (ver + 1) z [])) σ2 w ∧ Inv (s.set aid (.arr (ver + 1) z [])) σ2 w ∧ Rep (s.set aid (.arr (ver + 1) z [])) σ2 w (.slice .imm z xs) v1 by
    obtain ⟨σ2,h1,h2,h3⟩ := hh0
    exact ⟨σ2,hXn.trans h1,h2,h3⟩
  cases hlast with
  | arr _ _ _ v0 z0 cs0 v ho hk' hv hh =>
    rw [hid] at hk'; cases hk'
    obtain ⟨q1,q2⟩ := hh rfl
    rcases q2 with ⟨n1,n2,a,rfl⟩ | ⟨b,cap,vals,T,r1,rfl,r3,r4,r5⟩
    · have hz : xs = [] := List.eq_nil_of_length_eq_zero (by omega)
      subst hz
      refine ⟨_,Ext.refl ..,hIn,?_⟩
      cases a with
      | none => exact .nil _ _ trivial
      | some a => exact .slice .imm z [] a 0 (fun _ _ => default) (Nat.le_refl _) (fun h => absurd rfl h) (fun i hi => by cases hi) (fun i j hi => by cases hi) (fun i j hi => by cases hi) trivial
    · rcases hI.arrs _ ver z _ hid with ⟨m1,_⟩ | ⟨b',vals',T',m1,m2,m3,m4,m5⟩
      · rw [m1] at r1; cases r1
      rw [r1] at m1; cases m1
      rw [r4] at m2; cases m2
      have hb : ∀ i,i < (s.set aid (.arr (ver + 1) z [])).length → (σ.setMu aid none).μ i ≠ some b := by
        intro i hi e
        by_cases hne : i = aid
        · subst hne; simp [Sig.setMu] at e
        · simp only [Sig.setMu,if_neg hne] at e
          exact hne (hI.inj i aid b (by simpa using hi) (lt_of_get hid) e r1)
      have hl : ((σ.setMu aid none).lock b).still = false := by simp only [Sig.setMu]; rw [m5]; rfl
      refine ⟨_,Ext.frz hb hl,hIn.frz hb hl (lt_of_some r4),?_⟩
      have hcell : ∀ i j,i < xs.length → j < z → (xs.flatMap SV.cells).getD (i * z + j) .any = (xs.getD i .any).cells.getD j .any ∧ i * z + j < (xs.flatMap SV.cells).length := fun i j hi hj => flat_at hcl hi hj
      have hcs : ∀ k,k < (xs.flatMap SV.cells).length → k < cs.length ∧ cs.getD k .any = (xs.flatMap SV.cells).getD k .any := fun k hk => by
        have h1 := congrArg List.length hfl
        rw [List.length_take] at h1
        refine ⟨by omega,?_⟩
        rw [← hfl]
        have : k < n * z := by omega
        simp [List.getD_eq_getElem?_getD,this]
      have key := Rep.slice (st := s.set aid (.arr (ver + 1) z [])) (σ := (σ.setMu aid none).setLock b .all) (w := w) .imm z xs ⟨b,0,none⟩ cap (fun i j => vals.getD (i * z + j) default) (by omega) (fun _ => rfl)
        (fun i hi => by rw [List.getD_eq_getElem?_getD,List.getElem?_eq_getElem hi]; exact hcl _ (List.getElem_mem hi))
        (fun i j hi hj => by
          have h1 := (hcell i j hi hj).2
          have h2 := (hcs _ h1).1
          have h3 : i * z + j < vals.size := by omega
          refine ⟨?_,has_all _ b _⟩
          simp [World.cell?,r4,h3,Array.getD])
        (fun i j hi hj => by
          have h1 := hcell i j hi hj
          have h2 := hcs _ h1.2
          have h9 := m4 (i * z + j) h2.1
          rw [h2.2,h1.1] at h9
          exact h9.ext (hXn.trans (Ext.frz hb hl)))
        trivial
      rw [hlen] at key
      exact key
end Go.AL
namespace Go.AL
variable {P : Program}
def View (s s' : St) : Prop := ∀ (σ : Sig) (w : World),Inv s σ w → ∃ σ',Ext s σ w s' σ' w ∧ Inv s' σ' w
theorem View.trans {a b c : St} (h : View a b) (k : View b c) : View a c := fun σ w hI => by
  obtain ⟨σ1,h1,h2⟩ := h σ w hI
  obtain ⟨σ2,k1,k2⟩ := k σ1 w h2
  exact ⟨σ2,h1.trans k1,k2⟩
theorem awp_view {c : Code} {Q : Exit → List SV → St → Prop} {env : List SV} {st s' : St} (hv : View st s') (h : AWp P c Q env s') : AWp P c Q env st := by
  intro σ w t hI hR D hd
  obtain ⟨σ',hX,hI'⟩ := hv σ w hI
  exact wp_mono (h σ' w t hI' (hR.ext hX) hd) fun e a w hp => hp.ext hX
theorem view_cell {st s1 : St} {id j : Nat} {l : List SV} {x y : SV} (hl : st[id]? = some (.cells l)) (hj : j < l.length) (he : l.getD j .any = x) (hl1 : s1[id]? = some (.cells l))
    (h : ∀ (σ : Sig) (w : World) (v : Value),Inv st σ w → Rep st σ w x v → ∃ σ1,Ext st σ w s1 σ1 w ∧ Inv s1 σ1 w ∧ Rep s1 σ1 w y v) : View st (s1.set id (.cells (l.set j y))) := by
  intro σ w hI
  obtain ⟨b0,cs0,T0,k1,k2,k3,k4,k5⟩ := hI.cells id l hl
  have h6 := k4 j hj
  rw [he] at h6
  obtain ⟨σ1,hX,hI1,hr1⟩ := h σ w _ hI h6
  obtain ⟨b,cs1,T,h1,h2,h3,h4,h5⟩ := hI1.cells id l hl1
  have hmu := (hX.kcells id l hl).2
  rw [h1,k1] at hmu
  cases hmu
  rw [k2] at h2; cases h2
  have hr : ∀ i,i < (l.set j y).length → Rep s1 σ1 w ((l.set j y).getD i .any) (cs0.getD i default) := by
    intro i hi
    simp only [List.length_set] at hi
    by_cases e : j = i
    · subst e
      have e2 : (l.set j y).getD j .any = y := by simp [List.getD_eq_getElem?_getD,hi]
      rw [e2]
      exact hr1
    · have := h4 i hi
      simpa [List.getD_eq_getElem?_getD,List.getElem?_set_ne e] using this
  have hX2 := Ext.write (w' := w) (l' := l.set j y) hI1 hl1 h1 h5 rfl rfl rfl rfl (fun _ _ => rfl)
  have hI2 := Inv.write (w' := w) (l' := l.set j y) hI1 hl1 h1 h5 rfl rfl rfl rfl (fun _ _ => rfl) k2 (by simpa using h3) hr
  exact ⟨_,hX.trans hX2,hI2⟩
theorem view_ownC {st : St} (id j z z' : Nat) {l : List SV} (hl : st[id]? = some (.cells l)) (hj : j < l.length) (he : l.getD j .any = .slice .full z' []) :
    View st (st.set id (.cells (l.set j (.slice (.own st.length 0) z []))) ++ [.tok 0]) := by
  have hlt := lt_of_get hl
  rw [← List.set_append_left _ _ hlt]
  refine view_cell hl hj he (by rw [List.getElem?_append_left hlt]; exact hl) fun σ w v hI hr => ?_
  have hX : Ext st σ w (st ++ [.tok 0]) (σ.setMu st.length none) w := Ext.newTok none
  refine ⟨_,hX,hI.newTok none (fun c hc => by cases hc),?_⟩
  have h7 := (rep_nil_z (z' := z) hr (.inl rfl)).ext hX
  generalize hl' : ([] : List SV) = l' at h7
  generalize hx : SV.slice .full z l' = x at h7
  cases h7 with
  | nil m z hm => cases hx; exact .nil _ _ ⟨0,by simp,Nat.le_refl _⟩
  | slice m z l a cap vals hcap hsp hzz hc hr hm =>
    cases hx
    subst hl'
    exact .slice _ _ _ _ _ vals hcap hsp hzz hc hr ⟨0,by simp,Nat.le_refl _,fun _ => .inl hm⟩
  | _ => cases hx
theorem ex_app2 {st s : St} (h : ∃ ex,s = st ++ ex) (l : St) : ∃ ex,s ++ l = st ++ ex := by
  obtain ⟨ex,rfl⟩ := h
  exact ⟨ex ++ l,by rw [List.append_assoc]⟩
theorem ex_set {st s : St} (h : ∃ ex,s = st ++ ex) {id : Nat} (hi : st.length ≤ id) (o : Ob) : ∃ ex,s.set id o = st ++ ex := by
  obtain ⟨ex,rfl⟩ := h
  exact ⟨ex.set (id - st.length) o,by rw [List.set_append_right _ _ hi]⟩
end Go.AL
namespace Go.AL
open Go Go.RowKit
end Go.AL
namespace Go.AL
attribute [go_sem] imp_self implies_true reduceCtorEq false_imp_iff true_imp_iff decide_true decide_false Int.toNat_natCast Int.toNat_zero Int.toNat_one Int.natCast_nonneg Int.le_refl Nat.le_refl Nat.reduceAdd Nat.reduceMul Nat.reduceLeDiff Nat.reduceLT Int.reduceLE Int.reduceLT Int.reduceEq Nat.add_zero Nat.reduceBEq Nat.reduceEqDiff Bool.not_true Bool.not_false Bool.and_false Bool.false_and Bool.or_true Bool.true_or Bool.or_false Bool.false_or call_funcH c_drawH c_loopH gAll_F gIf_F pickB_true pickB_false Array.toList_append List.cons_append List.nil_append opTmps List.contains_cons List.contains_nil
end Go.AL
