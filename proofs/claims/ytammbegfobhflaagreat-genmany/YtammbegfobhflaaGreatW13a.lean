/- Codes in memory; whether a code may be (code.May); needs. -/
import Derived.Test.YtammbegfobhflaaGreatW12
set_option linter.all false
set_option linter.unusedSimpArgs false
set_option linter.unusedVariables false
set_option maxRecDepth 8000
namespace Go.AL
def insSV (l : List In) : SV := .slice .imm 3 (l.map inSV)
def bdSV (f : Bd) : SV := .agg [i64 f.kept, i64 f.locals, i64 f.stack, insSV f.code]
def cdCells (m1 m2 m3 : AL.Mode) (z1 z2 z3 : Nat) (c : Cd) : List SV := [.slice m1 z1 (c.funs.map bdSV), .slice m2 z2 (c.ints.map i64), .slice m3 z3 (c.texts.map str), i64 c.lets]
theorem cellsOf_in {P : Program} {t : TypeId} (i : In) (h1 : aAgg P t = some true) (h2 : aSize P t = some 3) : cellsOf P t (inSV i).cells = some (inSV i) := by
  simp [cellsOf, h1, h2, SV.cells, inSV, inCells]
theorem cellsOf_bd {P : Program} {t : TypeId} (f : Bd) (h1 : aAgg P t = some true) (h2 : aSize P t = some 4) : cellsOf P t (bdSV f).cells = some (bdSV f) := by
  simp [cellsOf, h1, h2, SV.cells, bdSV]
theorem ids_in (n : Nat) (i : In) : Ids n (inSV i) := by
  simp only [inSV, inCells, ids_agg, List.forall_mem_cons, ids_sc, true_and]
  exact fun x hx => by cases hx
theorem ids_ins (n : Nat) (m : AL.Mode) (hm : m = .imm ∨ m = .full) (l : List In) : Ids n (.slice m 3 (l.map inSV)) := by
  refine ids_slice hm fun x hx y hy => ?_
  obtain ⟨a, _, rfl⟩ := List.mem_map.1 hx
  simp only [inSV, inCells, SV.cells, List.mem_cons, List.not_mem_nil, or_false] at hy
  rcases hy with rfl | rfl | rfl <;> exact .sc _
theorem ids_bd (n : Nat) (f : Bd) : Ids n (bdSV f) := by
  simp only [bdSV, ids_agg, List.forall_mem_cons, ids_sc, true_and]
  exact ⟨ids_ins n _ (.inl rfl) _, fun x hx => by cases hx⟩
theorem ids_bds2 (n : Nat) (m : AL.Mode) (hm : m = .imm ∨ m = .full) (l : List Bd) : Ids n (.slice m 4 (l.map bdSV)) := by
  refine ids_slice hm fun x hx y hy => ?_
  obtain ⟨a, _, rfl⟩ := List.mem_map.1 hx
  have := ids_bd n a
  rw [bdSV, ids_agg] at this
  exact this y hy
/-- A cond, of which only the way that is gone is looked at. -/
theorem c_condI {P : Program} {M : List Nat} {Q : Exit → List SV → St → Prop} {env : List SV} {st : St} (c : Operand) (x y : Code) : cSpec P M (.cond c x y) Q env st = (isB (ev env c) ∧ if bOf (ev env c) = true then cSpec P M x Q env st else cSpec P M y Q env st) := by
  rw [c_cond]
  cases bOf (ev env c) <;> simp
end Go.AL
namespace Go.Proofs
open Go Go.AL
theorem in_c (n a b : Int) (K : SV → St → Prop) (st : St) (h : K (.sc (.bool (inB n a b))) st) : ACalls Tryz.prog 53 [i64 n, i64 a, i64 b] K st := by
  refine acalls_go_pure [] Tryz.func53 rfl Tryz.results53 Tryz.ntmps53 ?_
  simp only [go_sem]
  unfold inB at h
  exact ⟨⟨[], by simp⟩, .sc _, h⟩
set_option maxHeartbeats 4000000 in
theorem uses_c (n : Int) (K : SV → St → Prop) (st : St) (h : K (i64 (usesF n)) st) : ACalls Tryz.prog 92 [i64 n] K st := by
  refine acalls_go_pure [] Tryz.func92 rfl Tryz.results92 Tryz.ntmps92 ?_
  by_cases e10 : n = 10
  · subst e10
    simp (maxSteps := 2000000) only [↓reduceIte, ↓c_condI, go_sem, Int.reduceBEq]
    exact ⟨⟨[], by simp⟩, .sc _, h⟩
  by_cases e11 : n = 11
  · subst e11
    simp (maxSteps := 2000000) only [↓reduceIte, ↓c_condI, go_sem, Int.reduceBEq]
    exact ⟨⟨[], by simp⟩, .sc _, h⟩
  by_cases e18 : n = 18
  · subst e18
    simp (maxSteps := 2000000) only [↓reduceIte, ↓c_condI, go_sem, Int.reduceBEq]
    exact ⟨⟨[], by simp⟩, .sc _, h⟩
  by_cases e1 : n = 1
  · subst e1
    simp (maxSteps := 2000000) only [↓reduceIte, ↓c_condI, go_sem, Int.reduceBEq]
    exact ⟨⟨[], by simp⟩, .sc _, h⟩
  by_cases e2 : n = 2
  · subst e2
    simp (maxSteps := 2000000) only [↓reduceIte, ↓c_condI, go_sem, Int.reduceBEq]
    exact ⟨⟨[], by simp⟩, .sc _, h⟩
  by_cases e3 : n = 3
  · subst e3
    simp (maxSteps := 2000000) only [↓reduceIte, ↓c_condI, go_sem, Int.reduceBEq]
    exact ⟨⟨[], by simp⟩, .sc _, h⟩
  by_cases e4 : n = 4
  · subst e4
    simp (maxSteps := 2000000) only [↓reduceIte, ↓c_condI, go_sem, Int.reduceBEq]
    exact ⟨⟨[], by simp⟩, .sc _, h⟩
  by_cases e6 : n = 6
  · subst e6
    simp (maxSteps := 2000000) only [↓reduceIte, ↓c_condI, go_sem, Int.reduceBEq]
    exact ⟨⟨[], by simp⟩, .sc _, h⟩
  by_cases e7 : n = 7
  · subst e7
    simp (maxSteps := 2000000) only [↓reduceIte, ↓c_condI, go_sem, Int.reduceBEq]
    exact ⟨⟨[], by simp⟩, .sc _, h⟩
  by_cases e8 : n = 8
  · subst e8
    simp (maxSteps := 2000000) only [↓reduceIte, ↓c_condI, go_sem, Int.reduceBEq]
    exact ⟨⟨[], by simp⟩, .sc _, h⟩
  by_cases e12 : n = 12
  · subst e12
    simp (maxSteps := 2000000) only [↓reduceIte, ↓c_condI, go_sem, Int.reduceBEq]
    exact ⟨⟨[], by simp⟩, .sc _, h⟩
  by_cases e16 : n = 16
  · subst e16
    simp (maxSteps := 2000000) only [↓reduceIte, ↓c_condI, go_sem, Int.reduceBEq]
    exact ⟨⟨[], by simp⟩, .sc _, h⟩
  by_cases e17 : n = 17
  · subst e17
    simp (maxSteps := 2000000) only [↓reduceIte, ↓c_condI, go_sem, Int.reduceBEq]
    exact ⟨⟨[], by simp⟩, .sc _, h⟩
  by_cases e19 : n = 19
  · subst e19
    simp (maxSteps := 2000000) only [↓reduceIte, ↓c_condI, go_sem, Int.reduceBEq]
    exact ⟨⟨[], by simp⟩, .sc _, h⟩
  by_cases e21 : n = 21
  · subst e21
    simp (maxSteps := 2000000) only [↓reduceIte, ↓c_condI, go_sem, Int.reduceBEq]
    exact ⟨⟨[], by simp⟩, .sc _, h⟩
  by_cases e28 : n = 28
  · subst e28
    simp (maxSteps := 2000000) only [↓reduceIte, ↓c_condI, go_sem, Int.reduceBEq]
    exact ⟨⟨[], by simp⟩, .sc _, h⟩
  have b10 : (n == 10) = false := beq_eq_false_iff_ne.2 e10
  have b11 : (n == 11) = false := beq_eq_false_iff_ne.2 e11
  have b18 : (n == 18) = false := beq_eq_false_iff_ne.2 e18
  have b1 : (n == 1) = false := beq_eq_false_iff_ne.2 e1
  have b2 : (n == 2) = false := beq_eq_false_iff_ne.2 e2
  have b3 : (n == 3) = false := beq_eq_false_iff_ne.2 e3
  have b4 : (n == 4) = false := beq_eq_false_iff_ne.2 e4
  have b6 : (n == 6) = false := beq_eq_false_iff_ne.2 e6
  have b7 : (n == 7) = false := beq_eq_false_iff_ne.2 e7
  have b8 : (n == 8) = false := beq_eq_false_iff_ne.2 e8
  have b12 : (n == 12) = false := beq_eq_false_iff_ne.2 e12
  have b16 : (n == 16) = false := beq_eq_false_iff_ne.2 e16
  have b17 : (n == 17) = false := beq_eq_false_iff_ne.2 e17
  have b19 : (n == 19) = false := beq_eq_false_iff_ne.2 e19
  have b21 : (n == 21) = false := beq_eq_false_iff_ne.2 e21
  have b28 : (n == 28) = false := beq_eq_false_iff_ne.2 e28
  have hn : usesF n = if n < 1 ∨ 33 < n then -1 else 0 := by
    unfold usesF
    rw [if_neg (by omega), if_neg (by omega)]
  rw [hn] at h
  by_cases hc : n < 1
  · rw [if_pos (.inl hc)] at h
    simp (maxSteps := 2000000) only [↓reduceIte, ↓c_condI, go_sem, b10, b11, b18, b1, b2, b3, b4, b6, b7, b8, b12, b16, b17, b19, b21, b28, hc]
    exact ⟨⟨[], by simp⟩, .sc _, h⟩
  · by_cases hd : 33 < n
    · rw [if_pos (.inr hd)] at h
      simp (maxSteps := 2000000) only [↓reduceIte, ↓c_condI, go_sem, b10, b11, b18, b1, b2, b3, b4, b6, b7, b8, b12, b16, b17, b19, b21, b28, hc, hd]
      exact ⟨⟨[], by simp⟩, .sc _, h⟩
    · rw [if_neg (by omega)] at h
      simp (maxSteps := 2000000) only [↓reduceIte, ↓c_condI, go_sem, b10, b11, b18, b1, b2, b3, b4, b6, b7, b8, b12, b16, b17, b19, b21, b28, hc, hd]
      exact ⟨⟨[], by simp⟩, .sc _, h⟩
end Go.Proofs
