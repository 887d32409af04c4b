/- Rows of TreeMany: cover.Check takes them. -/
import Derived.Test.YtcanmhognofheaaP0
set_option linter.all false
set_option linter.unusedVariables false
namespace Go.Proofs
open Go Go.AL
def belowBD (r : List Nd) (head : Nd) : Bool := looseB (r.getD 0 default) || sameBd (r.getD 0 default) head
def belowLD (r : List Nd) (head : Nd) : List Nd :=
  if looseB (r.getD 0 default) then List.replicate head.kids.length anyN ++ r.drop 1
  else if sameBd (r.getD 0 default) head then (r.getD 0 default).kids ++ r.drop 1 else []
def underD (rows : List (List Nd)) (head : Nd) : List (List Nd) := (rows.filter fun r => belowBD r head).map fun r => belowLD r head
theorem underL_d : underL = underD := by
  funext rows head
  unfold underL underD belowB belowBD
  have : belowL = belowLD := by funext r h; unfold belowL belowLD; rw [sameB_d]
  rw [sameB_d,this]
def cnD (cons : List Cn) (p : Nd) : Cn := (findCd cons p.text).getD default
def oddD (cons : List Cn) (first p : Nd) : Bool := p.kind != first.kind || !((cnD cons p).of_.data.toList == (cnD cons first).of_.data.toList)
theorem odd_d : odd = oddD := by
  funext cons first p
  unfold odd oddD conOf cnD
  rw [findC_d]
  simp only [ByteArray.toList_eq]
def togD (cons : List Cn) : Nat → List (List Nd) → Bool
  | 0,_ => false
  | b + 1,rows =>
    if rows = [] ∨ rows.getD 0 default = [] then true
    else if columnL rows = [] then togD cons b (othersL rows)
    else if (columnL rows).any (oddD cons ((columnL rows).getD 0 default)) then false
    else if (List.range (columnL rows).length).any (fun i => !(((columnL rows).take i).any fun o => sameBd o ((columnL rows).getD i default)) && !togD cons b (underD rows ((columnL rows).getD i default))) then false
    else togD cons b (othersL rows)
theorem togF_d (cons : List Cn) : ∀ (b : Nat) (rows : List (List Nd)),togF cons b rows = togD cons b rows
  | 0,_ => rfl
  | b + 1,rows => by
    have ih : togF cons b = togD cons b := funext (togF_d cons b)
    rw [togF,togD,ih,sameB_d,odd_d,underL_d]
theorem togF_up (cons : List Cn) : ∀ (b : Nat) (rows : List (List Nd)),togF cons b rows = true → ∀ b',b ≤ b' → togF cons b' rows = true
  | 0,_,h,_,_ => by cases h
  | b + 1,rows,h,0,hb => absurd hb (by omega)
  | b + 1,rows,h,b' + 1,hb => by
    have ih := fun rows h => togF_up cons b rows h b' (by omega)
    rw [togF] at h ⊢
    split at h
    · rename_i h1; rw [if_pos h1]
    · rename_i h1
      rw [if_neg h1]
      split at h
      · rename_i h2; rw [if_pos h2]; exact ih _ h
      · rename_i h2
        rw [if_neg h2]
        split at h
        · cases h
        · rename_i h3
          rw [if_neg h3]
          split at h
          · cases h
          · rename_i h4
            rw [if_neg ?_]
            · exact ih _ h
            · intro h5
              apply h4
              rw [List.any_eq_true] at h5 ⊢
              obtain ⟨i,hi,h5⟩ := h5
              refine ⟨i,hi,?_⟩
              simp only [Bool.and_eq_true,Bool.not_eq_true'] at h5 ⊢
              refine ⟨h5.1,?_⟩
              cases hc : togF cons b (underL rows ((columnL rows).getD i default)) with
              | false => rfl
              | true => rw [ih _ hc] at h5; cases h5.2
def plainD (n : Nd) : Bool :=
  (((((n.text.data.toList == []) || n.kind == 4) || n.kind == 5) && (n.names.length : Int) == 0) && (n.number == 0 || n.kind == 1)) && ((n.kids.length : Int) == 0 || n.kind == 5)
theorem plain_d : plainB = plainD := by
  funext n
  unfold plainB plainD
  simp only [ByteArray.toList_eq]
mutual
def sizeD (cons : List Cn) : Nd → Int × Bool
  | .mk k t num a ns ks =>
    if plainD (.mk k t num a ns ks) then
      if k == 24 || k == 4 then (1,true)
      else if k == 1 then (1,decide (0 ≤ num))
      else if k == 5 then
        match findCd cons t with
        | none => (0,false)
        | some c => if c.arity != (ks.length : Int) then (0,false) else sizeLD cons 1 ks
      else (0,false)
    else (0,false)
def sizeLD (cons : List Cn) (m : Int) : List Nd → Int × Bool
  | [] => (m,true)
  | n :: r => if !(sizeD cons n).2 || decide (30 < IntKind.i64.wrap (m + (sizeD cons n).1)) then (IntKind.i64.wrap (m + (sizeD cons n).1),false) else sizeLD cons (IntKind.i64.wrap (m + (sizeD cons n).1)) r
end
mutual
theorem size_d (cons : List Cn) : ∀ n : Nd,sizeN cons n = sizeD cons n
  | .mk k t num a ns ks => by
    rw [sizeN,sizeD,plain_d,findC_d,sizeL_d cons 1 ks]
    cases findCd cons t <;> rfl
theorem sizeL_d (cons : List Cn) (m : Int) : ∀ l : List Nd,sizeL cons m l = sizeLD cons m l
  | [] => by rw [sizeL,sizeLD]
  | n :: r => by rw [sizeL,sizeLD,size_d cons n,sizeL_d cons _ r]
end
def togB (n : Nat) : Bool := togD consL 60 (ones (manyRows n))
def szB (n : Nat) : Bool := (manyRows n).all (fun p => (sizeD consL p).2 && decide (cnt p ≤ 100)) && decide (nlL (manyRows n) ≤ 1000) && decide ((manyRows n).length ≤ 20)
set_option maxRecDepth 100000 in
theorem all_sz : (List.range 21).all szB = true := by decide +kernel
end Go.Proofs
