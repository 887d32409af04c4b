/- What the document asks of rows (selvageref09.Right). -/
import Derived.Test.YtcanmhognofheaaP0
set_option linter.all false
set_option linter.unusedVariables false
namespace Go.Proofs
open Go Go.AL
def okP (E : Eqs) : Nat → Nd → Bool
  | 0,_ => false
  | d + 1,p => p.names.isEmpty && p.number == 0 && ((p.kind == 24 && p.text.data.toList.isEmpty && p.kids.isEmpty) ||
      (p.kind == 5 && (match E.fc p.text with | none => false | some c => c.arity == (p.kids.length : Int) && p.kids.all (okP E d))))
def szT : Nat → Nd → Nat
  | 0,_ => 0
  | d + 1,p => 1 + (p.kids.map (szT d)).sum
def stTog (E : Eqs) : List Nd → Int → ByteArray → Option (Int × ByteArray)
  | [],k,o => some (k,o)
  | p :: r,k,o => if looseB p then stTog E r k o else
    if k != 0 && (k != p.kind || !(o.data.toList == (cnOf E p).of_.data.toList)) then none else stTog E r p.kind (cnOf E p).of_
def partsT (l : List Nd) (name : ByteArray) (i : Nat) : List Nd := (l.filter fun p => p.kind == 5 && p.text.data.toList == name.data.toList).map fun p => p.kids.getD i default
def togT (E : Eqs) (cons : List Cn) : Nat → List Nd → Bool
  | 0,_ => false
  | b + 1,l => match stTog E l 0 ⟨#[]⟩ with
    | none => false
    | some (k,o) => if k != 5 then true else cons.all fun c => !(c.of_.data.toList == o.data.toList) || (List.range c.arity.toNat).all fun i => togT E cons b (partsT l c.name i)
def rightT (E : Eqs) (n : Nat) : Bool := (manyRows n).all (fun p => okP E 20 p && decide (szT 20 p ≤ 30)) && togT E consL 20 (manyRows n) && decide ((manyRows n).length ≤ 20)
set_option maxRecDepth 100000 in
theorem all_rightF : (List.range 21).all (rightT eqsF) = true := by decide +kernel
theorem all_rightT {n : Nat} (h : n < 21) : rightT eqsS n = true := by
  have := all_rightF
  rw [← eqs_d,List.all_eq_true] at this
  exact this n (by simpa using h)
theorem okP_cases {E : Eqs} {d : Nat} {p : Nd} (h : okP E (d + 1) p = true) : p.names = [] ∧ p.number = 0 ∧ ((p.kind = 24 ∧ p.text.data.toList = [] ∧ p.kids = []) ∨ (p.kind = 5 ∧ ∃ c,E.fc p.text = some c ∧ c.arity = (p.kids.length : Int) ∧ ∀ q ∈ p.kids,okP E d q = true)) := by
  rw [okP] at h
  simp only [Bool.and_eq_true,Bool.or_eq_true,List.isEmpty_iff,beq_iff_eq] at h
  obtain ⟨⟨h1,h2⟩,h3⟩ := h
  refine ⟨h1,h2,?_⟩
  rcases h3 with ⟨⟨h4,h5⟩,h6⟩ | ⟨h4,h5⟩
  · exact .inl ⟨h4,h5,h6⟩
  · refine .inr ⟨h4,?_⟩
    cases hf : E.fc p.text with
    | none => rw [hf] at h5; cases h5
    | some c =>
      rw [hf] at h5
      simp only [Bool.and_eq_true,beq_iff_eq,List.all_eq_true] at h5
      exact ⟨c,rfl,h5.1,h5.2⟩
end Go.Proofs
