/- Plain laws: what Check tells of rows with one that means any ahead. -/
import Derived.Test.YtjkhpblfgcnpaaaL1
import Derived.Test.YtjkhpblfgcnpaaaW23
set_option linter.unusedSimpArgs false
set_option linter.unusedVariables false
set_option maxRecDepth 8000
namespace Go.Proofs
open Go Go.AL

theorem chk_err (cons : List Cn) (B : Nat) (rows : List Nd) : (chkF cons B rows).2 = 1 → chkF cons B rows = (0, 1) := by
  unfold chkF
  repeat' split
  all_goals (intro h; first | rfl | (simp at h; done))

/-- Are rows looked at? -/
def goodB (cons : List Cn) (B : Nat) (rows : List Nd) : Bool :=
  !(decide (20 < rows.length) || !soundUpto cons cons.length) && !(rows.any (fun p => !(sizeN cons p).2)) && togF cons B (ones rows)

theorem chk_bad (cons : List Cn) (B : Nat) (rows : List Nd) (h : goodB cons B rows = false) : chkF cons B rows = (0, 1) := by
  unfold chkF
  unfold goodB at h
  split
  · rfl
  · rename_i h1
    split
    · rfl
    · rename_i h2
      split
      · rfl
      · rename_i h3
        exfalso
        rw [Bool.and_eq_false_iff, Bool.and_eq_false_iff] at h
        rcases h with (h | h) | h
        · rw [Bool.not_eq_false', Bool.or_eq_true] at h
          rcases h with h | h
          · exact h1 (.inl (by simpa using h))
          · exact h1 (.inr (by simpa using h))
        · rw [Bool.not_eq_false'] at h
          exact h2 h
        · exact h3 h

theorem chk_good (cons : List Cn) (B : Nat) (rows : List Nd) (h : goodB cons B rows = true) : chkF cons B rows =
    match (List.range rows.length).find? (fun i => !meaF cons B ((ones rows).take i) [rows.getD i default]) with
    | some i => (i, 27)
    | none => if meaF cons B (ones rows) [anyN] then (0, 26) else (0, 0) := by
  unfold chkF
  unfold goodB at h
  rw [Bool.and_eq_true, Bool.and_eq_true] at h
  obtain ⟨⟨h1, h2⟩, h3⟩ := h
  rw [if_neg, if_neg, if_neg]
  · rfl
  · intro e; rw [e] at h3; cases h3
  · intro e; rw [e] at h2; cases h2
  · rintro (e | e)
    · rw [decide_eq_true e] at h1; cases h1
    · rw [e] at h1; simp at h1

theorem chk_one (cons : List Cn) (B : Nat) (rows : List Nd) : (chkF cons B rows).2 = 1 ↔ goodB cons B rows = false := by
  cases h : goodB cons B rows with
  | false => rw [chk_bad cons B rows h]; simp
  | true =>
    rw [chk_good cons B rows h]
    split
    · simp
    · split <;> simp

theorem size_any (cons : List Cn) : (sizeN cons anyN).2 = true := by
  rw [sizeN_eq, plain_any, if_pos rfl]; rfl

theorem good_any (cons : List Cn) (hlow : Low cons) (rows : List Nd) (hl : rows.length ≤ 10) (hn : 6 * nlL rows + 10 < 100000) : goodB cons 100000 (anyN :: rows) = goodB cons 100000 rows := by
  unfold goodB
  have h1 : decide (20 < (anyN :: rows).length) = decide (20 < rows.length) := by
    rw [decide_eq_false (by simp; omega), decide_eq_false (by omega)]
  rw [h1, List.any_cons, size_any, Bool.not_true, Bool.false_or]
  cases hs : rows.any (fun p => !(sizeN cons p).2) with
  | true => simp
  | false =>
    have hg := ones_good cons rows (by omega) hs
    have := tog_any cons hlow 100000 1 (ones rows) hg (by rw [ones_nl]; omega)
    have e : ones (anyN :: rows) = anys 1 :: ones rows := rfl
    rw [e, this]

/-- What CoverAny says. -/
theorem any_law (cons : List Cn) (hlow : Low cons) (rows : List Nd) (hl : rows.length ≤ 10) (hn : 6 * nlL rows + 10 < 100000) :
    ((chkF cons 100000 rows).2 = 1 → chkF cons 100000 (anyN :: rows) = (0, 1)) ∧
    ((chkF cons 100000 rows).2 ≠ 1 → rows = [] → (chkF cons 100000 (anyN :: rows)).2 = 0) ∧
    ((chkF cons 100000 rows).2 ≠ 1 → rows ≠ [] → chkF cons 100000 (anyN :: rows) = (1, 27)) := by
  have hg := good_any cons hlow rows hl hn
  have hfirst : meaF cons 100000 ((ones (anyN :: rows)).take 0) [(anyN :: rows).getD 0 default] = true := by
    rw [List.take_zero, meaF, if_pos (.inl rfl)]; rfl
  refine ⟨fun h => chk_bad _ _ _ (by rw [hg]; exact (chk_one _ _ _).1 h), fun h he => ?_, fun h he => ?_⟩
  · have hgt : goodB cons 100000 (anyN :: rows) = true := by
      rw [hg]
      cases hh : goodB cons 100000 rows with
      | true => rfl
      | false => exact absurd ((chk_one _ _ _).2 hh) h
    subst he
    rw [chk_good _ _ _ hgt]
    have e1 : (List.range [anyN].length).find? (fun i => !meaF cons 100000 ((ones [anyN]).take i) [[anyN].getD i default]) = none := by
      rw [List.find?_eq_none]
      intro i hi
      have : i = 0 := by simp at hi; exact hi
      subst this
      rw [hfirst]; decide
    rw [e1]
    have e2 := mea_any cons 100000 1 (ones [anyN]) [anyN] List.mem_cons_self rfl
    simp only [e2]; rfl
  · have hgt : goodB cons 100000 (anyN :: rows) = true := by
      rw [hg]
      cases hh : goodB cons 100000 rows with
      | true => rfl
      | false => exact absurd ((chk_one _ _ _).2 hh) h
    rw [chk_good _ _ _ hgt]
    cases rows with
    | nil => exact absurd rfl he
    | cons x r =>
      have e1 : (List.range (anyN :: x :: r).length).find? (fun i => !meaF cons 100000 ((ones (anyN :: x :: r)).take i) [(anyN :: x :: r).getD i default]) = some 1 := by
        refine find_range (by simp) ?_ fun i hi => ?_
        · show (!meaF cons 100000 [anys 1] [x]) = true
          rw [mea_any cons 100000 1 [anys 1] [x] List.mem_cons_self rfl]; rfl
        · obtain rfl : i = 0 := by omega
          rw [hfirst]; rfl
      rw [e1]
      rfl

end Go.Proofs
