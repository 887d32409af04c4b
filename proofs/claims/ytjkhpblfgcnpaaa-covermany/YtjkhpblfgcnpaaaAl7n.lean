/- Comparing with nil. -/
import Derived.Test.YtjkhpblfgcnpaaaAl7s
namespace Go.AL
open Go

variable {P : Program}

def nilConst : Operand → Bool
  | .const (.slice none 0 0) => true
  | .const (.pointer none) => true
  | _ => false

/-- Is the underlying type a pointer type? -/
def aIsPtr (P : Program) (t : TypeId) : Bool := match P.underlying t with | some (.pointer _) => true | _ => false

def nilV (op : BinOp) : SV → SV
  | .slice _ _ _ => .sc (.bool (op matches .neq))
  | .slc _ _ _ _ _ => .sc (.bool (op matches .neq))
  | .ref _ => .sc (.bool (op matches .neq))
  | .ptr _ _ => .sc (.bool (op matches .neq))
  | .sc (.pointer none) => .sc (.bool (op matches .eql))
  | _ => .any

def nilOk (P : Program) (op : BinOp) (t : TypeId) (y : Operand) (x : SV) : Prop :=
  (op = .eql ∨ op = .neq) ∧ match x with
  | .slice _ _ l => y = .const (.slice none 0 0) ∧ l ≠ [] ∧ (aElem P t).isSome = true
  | .slc _ _ _ _ _ => y = .const (.slice none 0 0) ∧ (aElem P t).isSome = true
  | .ref _ => y = .const (.pointer none) ∧ aIsPtr P t = true
  | .ptr _ _ => y = .const (.pointer none) ∧ aIsPtr P t = true
  | .sc (.pointer none) => y = .const (.pointer none) ∧ aIsPtr P t = true
  | _ => False

theorem und_ptr' {t : TypeId} (h : aIsPtr P t = true) : ∃ e, P.underlying t = some (.pointer e) := by
  unfold aIsPtr at h
  split at h
  · rename_i e he; exact ⟨e, he⟩
  · cases h

theorem run_equalIn_slice (w : World) (d : Nat) {t e : TypeId} {a : Addr} {n c : Nat} (h : P.underlying t = some (.slice e)) : (Op.equalIn (d + 1) t (.slice (some a) n c) (.slice none 0 0)).run P w = .ok false w := by
  simp [Op.equalIn, run_underlying h]
theorem run_equal_slice (w : World) {t e : TypeId} {a : Addr} {n c : Nat} (h : P.underlying t = some (.slice e)) : (Op.equal t (.slice (some a) n c) (.slice none 0 0)).run P w = .ok false w := run_equalIn_slice w 9999 h
theorem run_equalIn_ptr (w : World) (d : Nat) {t e : TypeId} {a : Option Addr} (h : P.underlying t = some (.pointer e)) : (Op.equalIn (d + 1) t (.pointer a) (.pointer none)).run P w = .ok a.isNone w := by
  cases a <;> simp [Op.equalIn, run_underlying h]
theorem run_equal_ptr (w : World) {t e : TypeId} {a : Option Addr} (h : P.underlying t = some (.pointer e)) : (Op.equal t (.pointer a) (.pointer none)).run P w = .ok a.isNone w := run_equalIn_ptr w 9999 h

theorem ap_nil {o : Oper} {op : BinOp} {t u : TypeId} {x y : Operand} {ρ : Operand → SV} {st : St}
    (ho : o.op = .binOp op t x y u) (h : nilOk P op t y (ρ x)) : APure P o ρ st (nilV op (ρ x)) := by
  intro σ w a hI hR
  have hr := hR x (by simp [ho, Op.operands])
  obtain ⟨hop, h⟩ := h
  have ec : ∀ v, a.eval (.const v) = v := fun _ => rfl
  generalize hv : a.eval x = v at hr
  generalize hx : ρ x = X at hr h
  split at h
  · obtain ⟨rfl, hl, he⟩ := h
    have hu := und_slice (Option.some_get he).symm
    cases hr with
    | nil m z hm => exact (hl rfl).elim
    | slice m z l ad cap vals hcap hsp hzz hc hr hm =>
      rcases hop with rfl | rfl
      · exact ⟨.bool false, by simp [execOp, ho, hv, ec, eqGuard, binOp, run_equal_slice w hu], .sc _⟩
      · exact ⟨.bool true, by simp [execOp, ho, hv, ec, eqGuard, binOp, run_equal_slice w hu], .sc _⟩
  · obtain ⟨rfl, he⟩ := h
    have hu := und_slice (Option.some_get he).symm
    cases hr with
    | slc id z off len cap b hk hb hc =>
      rcases hop with rfl | rfl
      · exact ⟨.bool false, by simp [execOp, ho, hv, ec, eqGuard, binOp, run_equal_slice w hu], .sc _⟩
      · exact ⟨.bool true, by simp [execOp, ho, hv, ec, eqGuard, binOp, run_equal_slice w hu], .sc _⟩
  · obtain ⟨rfl, he⟩ := h
    obtain ⟨e, hu⟩ := und_ptr' he
    cases hr with
    | ref cells b o' vals hc hr =>
      rcases hop with rfl | rfl
      · exact ⟨.bool false, by simp [execOp, ho, hv, ec, eqGuard, binOp, run_equal_ptr w hu], .sc _⟩
      · exact ⟨.bool true, by simp [execOp, ho, hv, ec, eqGuard, binOp, run_equal_ptr w hu], .sc _⟩
  · obtain ⟨rfl, he⟩ := h
    obtain ⟨e, hu⟩ := und_ptr' he
    cases hr with
    | ptr id off b hk hb =>
      rcases hop with rfl | rfl
      · exact ⟨.bool false, by simp [execOp, ho, hv, ec, eqGuard, binOp, run_equal_ptr w hu], .sc _⟩
      · exact ⟨.bool true, by simp [execOp, ho, hv, ec, eqGuard, binOp, run_equal_ptr w hu], .sc _⟩
  · obtain ⟨rfl, he⟩ := h
    obtain ⟨e, hu⟩ := und_ptr' he
    cases hr with
    | sc v =>
      rcases hop with rfl | rfl
      · exact ⟨.bool true, by simp [execOp, ho, hv, ec, eqGuard, binOp, run_equal_ptr w hu], .sc _⟩
      · exact ⟨.bool false, by simp [execOp, ho, hv, ec, eqGuard, binOp, run_equal_ptr w hu], .sc _⟩
  · exact h.elim

def aInt (P : Program) (t : TypeId) : Option IntKind := match P.underlying t with | some (.int k) => some k | _ => none

theorem und_int {t : TypeId} {k : IntKind} (h : aInt P t = some k) : P.underlying t = some (.int k) := by
  unfold aInt at h
  split at h
  · rename_i e; cases h; exact e
  · cases h

def convV (P : Program) (u : TypeId) : SV → SV
  | .sc (.int _ n) => .sc (match aInt P u with | some k => .int k (k.wrap n) | none => undef)
  | _ => .any
def convOk (P : Program) (t u : TypeId) : SV → Prop
  | .sc (.int _ _) => (aInt P t).isSome = true ∧ (aInt P u).isSome = true
  | _ => False

theorem ap_conv {o : Oper} {t u : TypeId} {x : Operand} {ρ : Operand → SV} {st : St} (ho : o.op = .convert t u x) (h : convOk P t u (ρ x)) : APure P o ρ st (convV P u (ρ x)) := by
  intro σ w a hI hR
  have hr := hR x (by simp [ho, Op.operands])
  generalize hv : a.eval x = v at hr
  generalize hx : ρ x = X at hr h
  unfold convOk at h
  split at h
  · rename_i k n
    obtain ⟨h1, h2⟩ := h
    have e1 := und_int (Option.some_get h1).symm
    cases h3 : aInt P u with
    | none => rw [h3] at h2; cases h2
    | some k' =>
      have e2 := und_int h3
      have ev := rep_sc hr
      refine ⟨.int k' (k'.wrap n), by simp [execOp, ho, hv, ev, convert, run_underlying e1, run_underlying e2, Conv.intToInt], ?_⟩
      simp only [convV, h3]
      exact .sc _
  · exact h.elim

end Go.AL
