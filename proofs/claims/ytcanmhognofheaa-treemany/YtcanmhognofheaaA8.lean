/- The abstract layer, part 30: a range over a map, as code. -/
import Derived.Test.YtcanmhognofheaaA7
import Derived.Sort.Row
import Derived.Sort.Grow
import Derived.Below
import Derived.RangeFuncLeaves
import Derived.RangeFuncFrom
set_option linter.all false
set_option linter.unusedVariables false
namespace Go.AL
variable {P : Program}
end Go.AL
namespace Go.AL
variable {P : Program}
section
variable {M : List Nat} {ds : List (Option Tmp)} {ks : List Nat} {tbl : List (List Nat × St)} {i : Nat} {L : List (List Nat)} {Ls : List (List (List Nat))} {o : Oper} {r : List Oper} {env : List SV} {K : List SV → Prop}
end
end Go.AL
namespace Go.AL
variable {P : Program}
end Go.AL
namespace Go.AL
variable {P : Program}
end Go.AL
namespace Go.AL
variable {P : Program}
end Go.AL
namespace Go.AL
open Go Go.RowKit
variable {P : Program}
theorem ext_below {st : St} {σ : Sig} {w w' : World} (hI : Inv st σ w) (hb : Below w.heap.size w w') : Ext st σ w st σ w' where
  os := hb.os
  tape := hb.tape
  output := hb.output
  size := hb.size
  lock := fun b o v h k => by
    have hlt : b < w.heap.size := by
      unfold World.cell? at k
      cases hx : w.heap[b]? with
      | none => simp [hx] at k
      | some x => exact lt_of_some hx
    refine ⟨h,?_⟩
    unfold World.cell? at k ⊢
    rw [hb.block b hlt]; exact k
  all := fun b hlt _ => ⟨rfl,hb.block b hlt⟩
  kcells := fun id l h => ⟨⟨l,h⟩,rfl⟩
  ktok := fun id v h => ⟨v,h,Nat.le_refl _,fun _ => ⟨rfl,fun b hb' => ⟨rfl,hb.block b (hI.tok id v b h hb').1⟩⟩⟩
  karrs := fun id v z cs h => ⟨v,cs,h,Nat.le_refl _,fun _ => ⟨rfl,rfl,fun b vals T fr _ hh => ⟨vals,by rw [hb.block b (lt_of_some hh)]; exact hh,rfl⟩⟩⟩
  kmaps := fun id es h => ⟨⟨es,h⟩,rfl,fun b ents clock _ hh => ⟨ents,clock,by rw [hb.block b (lt_of_some hh)]; exact hh,Nat.le_refl _,fun _ _ => rfl⟩⟩
theorem inv_below {st : St} {σ : Sig} {w w' : World} (hI : Inv st σ w) (hb : Below w.heap.size w w') : Inv st σ w' where
  cells := fun id l h => by
    obtain ⟨b,cs,T,h1,h2,h3,h4,h5⟩ := hI.cells id l h
    exact ⟨b,cs,T,h1,by rw [hb.block b (lt_of_some h2)]; exact h2,h3,fun j hj => (h4 j hj).ext (ext_below hI hb),h5⟩
  tok := fun id v b h hb' => by
    obtain ⟨h1,h2⟩ := hI.tok id v b h hb'
    exact ⟨Nat.lt_of_lt_of_le h1 hb.size,h2⟩
  inj := hI.inj
  fresh := fun b h => hI.fresh b (Nat.le_trans hb.size h)
  arrs := fun id v z cs h => (hI.arrs id v z cs h).imp (fun h => h) fun ⟨b,vals,T,h1,h2,h3,h4,h5⟩ => ⟨b,vals,T,h1,by rw [hb.block b (lt_of_some h2)]; exact h2,h3,fun j hj => (h4 j hj).ext (ext_below hI hb),h5⟩
  maps := fun id es h => by
    obtain ⟨b,ents,clock,h1,h2,h3,h4⟩ := hI.maps id es h
    exact ⟨b,ents,clock,h1,by rw [hb.block b (lt_of_some h2)]; exact h2,⟨h3.1,fun j hj => ⟨(h3.2.1 j hj).1,(h3.2.1 j hj).2.ext (ext_below hI hb)⟩,h3.2.2⟩,h4⟩
  globs := hI.globs_ext (ext_below hI hb) fun _ _ _ h => ⟨h,rfl⟩
theorem args_one {st : St} {σ : Sig} {w : World} {x : SV} {vs : Array Value} (hR : RepArgs st σ w [x] vs) : ∃ v,vs = #[v] ∧ Rep st σ w x v := by
  refine ⟨vs.getD 0 undef,?_,by simpa using hR.2 0 (by simp)⟩
  have := hR.1
  simp only [List.length_cons,List.length_nil] at this
  apply Array.ext
  · simpa using this
  · intro i h1 h2
    have : i = 0 := by simp at h2; omega
    subst this
    simp [Array.getD,h1]
end Go.AL
namespace Go.AL
open Go Go.RowKit
variable {P : Program}
section
variable {fn : Func} {K : SV → St → Prop} {st0 : St} {σ0 : Sig} {w0 : World} {c A B : Code} {env : List SV} {st : St}
end
end Go.AL
namespace Go.AL
open Go Go.RowKit
variable {P : Program}
section
variable {fn : Func} {K : SV → St → Prop} {st0 : St} {σ0 : Sig} {w0 : World} {c A B : Code} {env : List SV} {st : St} {rs : Array ResultVar}
end
end Go.AL
namespace Go.AL
variable {P : Program}
def isStore : Op → Bool
  | .store _ _ _ => true
  | _ => false
def drawU (P : Program) (M : List Nat) (ds : List (Option Tmp)) (R : St → Prop) (s0 : St) : List Nat → List Oper → List SV → St → (List SV → St → Prop) → Prop
  | [],[],env,st,K => K env st
  | 0 :: tg,o :: r,env,st,K => d1Spec P M ds o env s0 fun x => drawU P M ds R s0 tg r (putE env o.dst x) st K
  | 1 :: tg,o :: r,env,st,K => isStore o.op = true ∧ o.guard = none ∧ effSpec P M o (onlyAt (opTmps o.op.operands.toList) 0 env) st fun x s => R s ∧ drawU P M ds R s0 tg r (putE env o.dst x) s K
  | 2 :: tg,o :: r,env,st,K => d1Spec P M ds o env st fun x => (∀ s,R s → d1Spec P M ds o env s fun y => y = x) ∧ drawU P M ds R s0 tg r (putE env o.dst x) st K
  | 3 :: tg,o :: r,env,st,K => ∃ X s',effSpec P M o (onlyAt (opTmps o.op.operands.toList) 0 env) st (fun x s => x = X ∧ s = s') ∧ o.guard = none ∧ R s' ∧ drawU P M ds R s0 tg r (putE env o.dst X) s' K
  | _,_,_,_,_ => False
section
variable {M : List Nat} {ds : List (Option Tmp)} {R : St → Prop} {s0 st : St} {tg : List Nat} {o : Oper} {r : List Oper} {env : List SV} {K : List SV → St → Prop}
theorem drawU_n : drawU P M ds R s0 [] [] env st K = K env st := rfl
theorem drawU_0 : drawU P M ds R s0 (0 :: tg) (o :: r) env st K = d1Spec P M ds o env s0 fun x => drawU P M ds R s0 tg r (putE env o.dst x) st K := rfl
theorem drawU_1 : drawU P M ds R s0 (1 :: tg) (o :: r) env st K = (isStore o.op = true ∧ o.guard = none ∧ effSpec P M o (onlyAt (opTmps o.op.operands.toList) 0 env) st fun x s => R s ∧ drawU P M ds R s0 tg r (putE env o.dst x) s K) := rfl
theorem drawU_2 : drawU P M ds R s0 (2 :: tg) (o :: r) env st K = d1Spec P M ds o env st fun x => (∀ s,R s → d1Spec P M ds o env s fun y => y = x) ∧ drawU P M ds R s0 tg r (putE env o.dst x) st K := rfl
theorem drawU_3 : drawU P M ds R s0 (3 :: tg) (o :: r) env st K = ∃ X s',effSpec P M o (onlyAt (opTmps o.op.operands.toList) 0 env) st (fun x s => x = X ∧ s = s') ∧ o.guard = none ∧ R s' ∧ drawU P M ds R s0 tg r (putE env o.dst X) s' K := rfl
theorem isStore_s {t : TypeId} {a b : Operand} : isStore (.store t a b) = true := rfl
end
def ksOf : Nat → List Nat → List Nat
  | _,[] => []
  | n,t :: r => if t == 1 || t == 3 then n :: ksOf (n + 1) r else ksOf (n + 1) r
def elOf : Nat → List Nat → List Nat
  | _,[] => []
  | n,t :: r => if t == 0 then n :: elOf (n + 1) r else elOf (n + 1) r
def tagsOk (ks el : List Nat) : Nat → List Nat → Bool
  | _,[] => true
  | n,t :: r => (ks.contains n == (t == 1 || t == 3)) && (el.contains n == (t == 0)) && tagsOk ks el (n + 1) r
theorem store_ext {M : List Nat} {o : Oper} {env : List SV} {st : St} {K : SV → St → Prop} (hs : isStore o.op = true) (h : effSpec P M o env st K) : ∃ X s',effSpec P M o env st (fun x s => x = X ∧ s = s') ∧ K X s' := by
  unfold isStore at hs
  split at hs
  · rename_i t x y ho
    unfold effSpec at h ⊢
    rw [ho] at h ⊢
    simp only at h ⊢
    obtain ⟨h1,h2⟩ := h
    unfold storeSpec at h2 ⊢
    split at h2
    · rename_i e
      rw [e] at *
      obtain ⟨a,b,c,d,f,g⟩ := h2
      exact ⟨_,_,⟨h1,a,b,c,d,f,rfl,rfl⟩,g⟩
    · rename_i e
      rw [e] at *
      obtain ⟨a,b,c,d,f,g⟩ := h2
      exact ⟨_,_,⟨h1,a,b,c,d,f,rfl,rfl⟩,g⟩
    · exact h2.elim
  · cases hs
theorem chainT {M : List Nat} {ops : Array Oper} {ks el : List Nat} {R : St → Prop} {s0 : St} {K : List SV → St → Prop} : ∀ (n : Nat) (tg : List Nat) (l : List Oper) (env : List SV) (st : St),ops.toList.drop n = l → tagsOk ks el n tg = true → R st →
    drawU P M (ops.toList.map (·.dst)) R s0 tg l env st K →
    ∃ (F : Nat → List SV) (G : Nat → St) (X : Nat → SV),F n = env ∧ G n = st ∧ (∀ i,n ≤ i → R (G i)) ∧
      (∀ i o,n ≤ i → ops[i]? = some o → F (i + 1) = putE (F i) o.dst (X i) ∧
        (if ks.contains i then EffFact P ops (G i) (G (i + 1)) o (F i) (X i) else G (i + 1) = G i ∧ ∀ s,(if el.contains i then s = s0 else R s) → OpFact P ops s o (F i) (X i))) ∧
      K (F (n + l.length)) (G (n + l.length))
  | n,[],[],env,st,hl,ht,hr,h => by
    refine ⟨fun _ => env,fun _ => st,fun _ => .any,rfl,rfl,fun _ _ => hr,fun i o hi ho => ?_,h⟩
    have h1 := lt_of_some ho
    have h2 := congrArg List.length hl
    simp at h2
    omega
  | n,t :: tg,o :: r,env,st,hl,htg,hrs,h => by
    have ho : ops[n]? = some o := by
      have : (ops.toList.drop n)[0]? = some o := by rw [hl]; rfl
      rw [List.getElem?_drop,Nat.add_zero,Array.getElem?_toList] at this
      exact this
    have hr : ops.toList.drop (n + 1) = r := by rw [← List.drop_drop,hl]; rfl
    simp only [tagsOk,Bool.and_eq_true,beq_iff_eq] at htg
    obtain ⟨⟨t1,t2⟩,t3⟩ := htg
    have fin : ∀ (X0 : SV) (s' : St),R s' → drawU P M (ops.toList.map (·.dst)) R s0 tg r (putE env o.dst X0) s' K →
        (if ks.contains n then EffFact P ops st s' o env X0 else s' = st ∧ ∀ s,(if el.contains n then s = s0 else R s) → OpFact P ops s o env X0) →
        ∃ (F : Nat → List SV) (G : Nat → St) (X : Nat → SV),F n = env ∧ G n = st ∧ (∀ i,n ≤ i → R (G i)) ∧
          (∀ i o,n ≤ i → ops[i]? = some o → F (i + 1) = putE (F i) o.dst (X i) ∧
            (if ks.contains i then EffFact P ops (G i) (G (i + 1)) o (F i) (X i) else G (i + 1) = G i ∧ ∀ s,(if el.contains i then s = s0 else R s) → OpFact P ops s o (F i) (X i))) ∧
          K (F (n + (o :: r).length)) (G (n + (o :: r).length)) := by
      intro X0 s' hrs' hrest hfact
      obtain ⟨F,G,X,f1,f2,f3,f4,f5⟩ := chainT (n + 1) tg r _ _ hr t3 hrs' hrest
      refine ⟨fun i => if i = n then env else F i,fun i => if i = n then st else G i,fun i => if i = n then X0 else X i,by simp,by simp,fun i hi => ?_,fun i p hi hp => ?_,?_⟩
      · by_cases e : i = n
        · simp only [if_pos e]; exact hrs
        · simp only [if_neg e]; exact f3 i (by omega)
      · by_cases e : i = n
        · subst e
          rw [ho] at hp; cases hp
          simp only [if_true,show ¬ i + 1 = i by omega,if_false]
          refine ⟨f1,?_⟩
          rw [f2]
          exact hfact
        · simp only [if_neg e,show ¬ i + 1 = n by omega,if_false]
          exact f4 i p (by omega) hp
      · simp only [List.length_cons]
        rw [if_neg (by omega),if_neg (by omega),show n + (r.length + 1) = n + 1 + r.length by omega]
        exact f5
    have turn : ∀ (X0 : SV) (s' : St),ks.contains n = true → effSpec P M o (onlyAt (opTmps o.op.operands.toList) 0 env) st (fun x s => x = X0 ∧ s = s') → o.guard = none →
        (if ks.contains n then EffFact P ops st s' o env X0 else s' = st ∧ ∀ s,(if el.contains n then s = s0 else R s) → OpFact P ops s o env X0) := by
      intro X0 s' hk h1 h2
      rw [if_pos hk]
      intro σ w a env' hI hR hs hlen
      refine ⟨h2,fun _ _ _ => False,fun _ _ _ h => h,?_⟩
      refine upon_mono ?_ (fun _ _ _ h => h) (aop_eff h1 σ w a hI (rep_only hR hs hlen))
      rintro a' w' ⟨v,x,s1,σ',rfl,⟨rfl,rfl⟩,hI',hr',hX⟩
      exact ⟨v,σ',rfl,hI',hX,hr'⟩
    match t,t1,t2,h with
    | 0,t1,t2,h =>
      rw [drawU_0] at h
      obtain ⟨X0,h1,h2⟩ := fact_of h
      refine fin X0 st hrs h2 ?_
      have k1 : ks.contains n = false := t1
      have k2 : el.contains n = true := t2
      rw [k1,k2]
      simp only [Bool.false_eq_true,if_false,if_true]
      exact ⟨trivial,fun s e => by rw [e]; exact h1⟩
    | 1,t1,t2,h =>
      rw [drawU_1] at h
      obtain ⟨hs,hg,he⟩ := h
      obtain ⟨X0,s',h1,h2,h3⟩ := store_ext hs he
      exact fin X0 s' h2 h3 (turn X0 s' t1 h1 hg)
    | 2,t1,t2,h =>
      rw [drawU_2] at h
      obtain ⟨X0,h1,h2,h3⟩ := fact_of h
      refine fin X0 st hrs h3 ?_
      have k1 : ks.contains n = false := t1
      have k2 : el.contains n = false := t2
      rw [k1,k2]
      simp only [Bool.false_eq_true,if_false]
      refine ⟨trivial,fun s hs => ?_⟩
      obtain ⟨X1,g1,rfl⟩ := fact_of (h2 s hs)
      exact g1
    | 3,t1,t2,h =>
      rw [drawU_3] at h
      obtain ⟨X0,s',h1,h2,h3,h4⟩ := h
      exact fin X0 s' h3 h4 (turn X0 s' t1 h1 h2)
    | n + 4,_,_,h => exact h.elim
  | n,[],o :: r,env,st,hl,ht,hr,h => h.elim
  | n,0 :: tg,[],env,st,hl,ht,hr,h => h.elim
  | n,1 :: tg,[],env,st,hl,ht,hr,h => h.elim
  | n,2 :: tg,[],env,st,hl,ht,hr,h => h.elim
  | n,3 :: tg,[],env,st,hl,ht,hr,h => h.elim
  | n,(k + 4) :: tg,[],env,st,hl,ht,hr,h => h.elim
def tagsAll (ops : Array Oper) (tags : List Nat) : Bool :=
  flowOk ops && ordOk ops (ksOf 0 tags) && (ksOf 0 tags).all (· < ops.size) && (elOf 0 tags).all (early ops (ksOf 0 tags)) && tagsOk (ksOf 0 tags) (elOf 0 tags) 0 tags
theorem awp_drawT (M : List Nat) (tags : List Nat) (R : St → Prop) {id : Nat} {ops : Array Oper} {Q : Exit → List SV → St → Prop} {env : List SV} {st : St} (hm : P.follows .mixedOrders = true) (ht : tagsAll ops tags = true)
    (hR : R st) (h : drawU P M (ops.toList.map (·.dst)) R st tags ops.toList env st fun e s => Q .normal e s) : AWp P (.region id ops true) Q env st := by
  simp only [tagsAll,Bool.and_eq_true] at ht
  obtain ⟨⟨⟨⟨h1,h2⟩,h3⟩,h4⟩,h5⟩ := ht
  exact awp_chain _ _ R hm h1 h2 h3 h4 (chainT 0 tags ops.toList env st rfl h5 hR h)
end Go.AL
namespace Go.AL
variable {P : Program}
def drawN (P : Program) (M : List Nat) (ds : List (Option Tmp)) : Nat → List Oper → List SV → St → (List SV → St → Prop) → Prop
  | 0,o :: r,env,st,K => o.guard = none ∧ effSpec P M o (onlyAt (opTmps o.op.operands.toList) 0 env) st fun x s => drawSpec P M ds r (putE env o.dst x) s fun e => K e s
  | k + 1,o :: r,env,st,K => d1Spec P M ds o env st fun x => drawN P M ds k r (putE env o.dst x) st K
  | _,[],_,_,_ => False
section
variable {M : List Nat} {ds : List (Option Tmp)} {st : St} {o : Oper} {r : List Oper} {env : List SV}
theorem drawN_0 {K : List SV → St → Prop} : drawN P M ds 0 (o :: r) env st K = (o.guard = none ∧ effSpec P M o (onlyAt (opTmps o.op.operands.toList) 0 env) st fun x s => drawSpec P M ds r (putE env o.dst x) s fun e => K e s) := rfl
theorem drawN_s {k : Nat} {K : List SV → St → Prop} : drawN P M ds (k + 1) (o :: r) env st K = d1Spec P M ds o env st fun x => drawN P M ds k r (putE env o.dst x) st K := rfl
theorem drawN_congr {k : Nat} {l l' : List Oper} {env' : List SV} {st' : St} {K : List SV → St → Prop} (h2 : l = l') (h3 : env = env') (h4 : st = st') : drawN P M ds k l env st K = drawN P M ds k l' env' st' K := by rw [h2,h3,h4]
theorem drawU_congr {R : St → Prop} {s0 s0' : St} {tg : List Nat} {l l' : List Oper} {env' : List SV} {st' : St} {K : List SV → St → Prop} (h2 : l = l') (h3 : env = env') (h4 : st = st') (h5 : s0 = s0') : drawU P M ds R s0 tg l env st K = drawU P M ds R s0' tg l' env' st' K := by rw [h2,h3,h4,h5]
attribute [congr] drawN_congr drawU_congr
attribute [go_sem] drawN_0 drawN_s
end
end Go.AL
