/- The abstract layer, part 21: what stands behind a call, a loop or a region that draws, held: simp does not look into it. -/
import Derived.Test.YtcanmhognofheaaA5
import Derived.Carry
import Derived.ChangeBears
set_option linter.all false
set_option linter.unusedVariables false
namespace Go.AL
variable {P : Program}
class Held (α : Type) where
  val : α
def ACallsH (P : Program) (f : FuncId) (args : List SV) (st : St) [h : Held (SV → St → Prop)] : Prop := ACalls P f args h.val st
def AWpH (P : Program) (c : Code) (env : List SV) (st : St) [h : Held (Exit → List SV → St → Prop)] : Prop := AWp P c h.val env st
theorem call_funcH {K : SV → St → Prop} {st : St} {a xs ys : List SV} {q : FuncId} : callSpec P a st (.func (.func q) xs ys) K = (aBody P q = true ∧ @ACallsH P q (xs ++ a ++ ys) st ⟨K⟩) := rfl
theorem c_loopH {M : List Nat} {Q : Exit → List SV → St → Prop} {env : List SV} {st : St} (c : Code) : cSpec P M (.loop c) Q env st = @AWpH P (.loop c) env st ⟨Q⟩ := rfl
theorem c_drawH {M : List Nat} {Q : Exit → List SV → St → Prop} {env : List SV} {st : St} (id : Nat) (ops : Array Oper) : cSpec P M (.region id ops true) Q env st = @AWpH P (.region id ops true) env st ⟨Q⟩ := rfl
theorem gAll_F {env : List SV} (l : List Operand) : gAll False env l = True := eq_true (gAll_of (fun h => h) l)
theorem gIf_F {x : SV} : gIf False x = True := by cases x <;> first | rfl | exact eq_true fun h => h.elim
theorem objAt_more {s t : St} {id : Nat} (h : isObj s id) : objAt (s ++ t) id = objAt s id := by
  have h1 := obj_of h
  unfold objAt at h1 ⊢
  rw [List.getElem?_append_left (lt_of_get h1)]
theorem isObj_more {s t : St} {id : Nat} (h : isObj s id) : isObj (s ++ t) id = True := by
  have h1 := obj_of h
  refine eq_true ?_
  unfold isObj
  rw [List.getElem?_append_left (lt_of_get h1),h1]; trivial
theorem acalls_args {f : FuncId} {args args' : List SV} {K : SV → St → Prop} {st : St} (hl : SVles args args') (h : ACalls P f args' K st) : ACalls P f args K st :=
  fun σ w vs hI hR => h σ w vs hI ⟨hR.1.trans hl.len,fun i hi => hl.at i _ _ _ _ (hR.2 i (by rw [hl.len]; exact hi))⟩
theorem dE_pure {M : List Nat} {ops : Array Oper} {ks el : List Nat} {R : St → Prop} {s0 st : St} {i : Nat} {o : Oper} {r : List Oper} {env : List SV} {K : List SV → St → Prop} (hk : ks.contains i = false) (hel : el.contains i = false) (X : SV)
    (h1 : ∀ s,R s → d1Spec P M (ops.toList.map (·.dst)) o env s (fun x => x = X)) (h2 : drawE P M ops ks el R s0 (i + 1) r (putE env o.dst X) st K) : drawE P M ops ks el R s0 i (o :: r) env st K := by
  simp only [drawE]
  rw [if_neg (by rw [hk]; decide)]
  refine ⟨X,fun s hs => h1 s ?_,h2⟩
  rw [if_neg (by rw [hel]; decide)] at hs
  exact hs
theorem dE_turn {M : List Nat} {ops : Array Oper} {ks el : List Nat} {R : St → Prop} {s0 st : St} {i : Nat} {o : Oper} {r : List Oper} {env : List SV} {K : List SV → St → Prop} (hk : ks.contains i = true) (X : SV) (s' : St)
    (h1 : effSpec P M o (onlyAt (opTmps o.op.operands.toList) 0 env) st (fun x s => x = X ∧ s = s')) (hg : o.guard = none) (hR : R s') (h2 : drawE P M ops ks el R s0 (i + 1) r (putE env o.dst X) s' K) : drawE P M ops ks el R s0 i (o :: r) env st K := by
  simp only [drawE]
  rw [if_pos hk]
  exact ⟨X,s',h1,hg,hR,h2⟩
theorem dE_end {M : List Nat} {ops : Array Oper} {ks el : List Nat} {R : St → Prop} {s0 st : St} {i : Nat} {env : List SV} {K : List SV → St → Prop} (h : K env st) : drawE P M ops ks el R s0 i [] env st K := h
end Go.AL
namespace Go.AL
variable {P : Program}
end Go.AL
namespace Go.AL
open Go Go.RowKit
variable {P : Program}
def topS (w : World) : Sig := { lock := fun b => if b < w.heap.size then .all else .upto 0,μ := fun _ => none }
theorem top_inv (w : World) : Inv [] (topS w) w := by
  refine ⟨fun id l h => by simp at h,fun id v b h => by simp at h,fun i j b hi => absurd hi (Nat.not_lt_zero _),fun b hb => ?_,fun id v z cs h => by simp at h,fun id l h => by simp at h,fun id b v h => by simp at h⟩
  simp only [topS,if_neg (Nat.not_lt.2 hb)]
section
variable {H : Type} {enc : TypeId × Value → H} {w : World} {T : TypeId → Prop}
end
theorem calls_top {f : FuncId} {args : List SV} {vs : Array Value} {w : World} (h : ACalls P f args (fun x _ => x = .sc (.bool true)) []) (hr : RepArgs [] (topS w) w args vs) :
    Calls P f vs w fun e w' => e = .returned (.bool true) ∧ Below w.heap.size w w' := by
  refine (h (topS w) w vs (top_inv w) hr).mono ?_
  rintro e w' ⟨v,x,s,σ',rfl,rfl,hI,hrep,hX⟩
  refine ⟨by rw [rep_sc hrep],hX.os,hX.tape,hX.output,hX.size,fun k hk => ?_⟩
  have : ((topS w).lock k).still = true := by simp only [topS,if_pos hk]; rfl
  exact (hX.all k hk this).2
end Go.AL
namespace Go.AL
variable {P : Program}
theorem fin_sc {K : SV → St → Prop} {st : St} {v : Value} (h : K (.sc v) st) : FinK st K (.sc v) st := ⟨⟨[],by simp⟩,.sc _,h⟩
theorem fin_scS {K : SV → St → Prop} {st s : St} {v : Value} (hs : ∃ ex,s = st ++ ex) (h : K (.sc v) st) : FinK st K (.sc v) s := ⟨hs,.sc _,h⟩
end Go.AL
