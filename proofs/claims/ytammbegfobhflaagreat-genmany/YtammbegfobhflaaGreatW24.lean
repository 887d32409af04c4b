/- What the document says a code may be (selvageref13): Uses, Instr. -/
import Derived.Test.YtammbegfobhflaaGreatW20
set_option linter.all false
set_option linter.unusedSimpArgs false
set_option linter.unusedVariables false
set_option maxRecDepth 8000
namespace Go.AL
def twoL : List Int := [10, 11, 18]
def noneL : List Int := [5, 9, 13, 14, 15, 20, 22, 23, 24, 25, 26, 27, 29, 30, 31, 32, 33]
theorem uses_ref (n : Int) : usesF n = if n < 1 ∨ 33 < n then -1 else if n ∈ twoL then 2 else if n ∈ noneL then 0 else 1 := by
  unfold usesF twoL noneL
  simp only [List.mem_cons, List.not_mem_nil, or_false]
  repeat' split
  all_goals omega
theorem at_num {l : List Int} {k : Nat} (h : k < l.length) : (l.map i64).getD k .any = i64 (l.getD k 0) := by simp [List.getD_eq_getElem?_getD, h]
theorem not_mem_of {l : List Int} {n : Int} (h : ∀ j, j < l.length → l.getD j 0 ≠ n) : n ∉ l := by
  intro hm
  obtain ⟨j, hj, rfl⟩ := List.getElem_of_mem hm
  exact h j hj (by simp [List.getD_eq_getElem?_getD, hj])
theorem mem_of {l : List Int} {n : Int} {k : Nat} (hk : k < l.length) (h : l.getD k 0 = n) : n ∈ l := by
  rw [← h]
  simp [List.getD_eq_getElem?_getD, hk]
theorem lt_step {k : Nat} {p : Nat → Prop} (h : ∀ j, j < k → p j) (hk : p k) : ∀ j, j < k + 1 → p j := fun j hj => by
  rcases Nat.lt_or_ge j k with h1 | h1
  · exact h j h1
  · rwa [show j = k by omega]
end Go.AL
namespace Go.Proofs
open Go Go.AL
set_option maxHeartbeats 4000000 in
theorem rUses_c (n : Int) (K : SV → St → Prop) (st : St) (h : K (i64 (usesF n)) st) : ACalls Tryz.prog 85 [i64 n] K st := by
  rw [uses_ref] at h
  by_cases hc : n < 1
  · rw [if_pos (.inl hc)] at h
    refine acalls_go_pure [] Tryz.func85 rfl Tryz.results85 Tryz.ntmps85 ?_
    simp (maxSteps := 2000000) only [↓reduceIte, ↓c_condI, ↓c_seqH, ↓c_blockH, ↓then_nH, ↓then_rH, ↓then_eH, ↓block_nH, ↓block_rH, ↓block_eH, go_sem, hc]
    exact ⟨⟨[], by simp⟩, .sc _, h⟩
  by_cases hd : 33 < n
  · rw [if_pos (.inr hd)] at h
    refine acalls_go_pure [] Tryz.func85 rfl Tryz.results85 Tryz.ntmps85 ?_
    simp (maxSteps := 2000000) only [↓reduceIte, ↓c_condI, ↓c_seqH, ↓c_blockH, ↓then_nH, ↓then_rH, ↓then_eH, ↓block_nH, ↓block_rH, ↓block_eH, go_sem, hc, hd]
    exact ⟨⟨[], by simp⟩, .sc _, h⟩
  rw [if_neg (by omega)] at h
  refine acalls_go_pure [] Tryz.func85 rfl Tryz.results85 Tryz.ntmps85 ?_
  simp (maxSteps := 2000000) only [↓reduceIte, ↓c_condI, ↓c_seqH, ↓c_blockH, ↓then_nH, ↓then_rH, ↓then_eH, ↓block_nH, ↓block_rH, ↓block_eH, go_sem, hc, hd]
  refine awp_rounds [] (fun q e s => ∃ k, k + q = 3 ∧ (∀ j, j < k → twoL.getD j 0 ≠ n) ∧ e = [i64 n, .any, .any, .slice .full 1 (twoL.map i64), .slice .full 1 (noneL.map i64), i64 k, .any, .any, .any, .any, .any, .any, .any, .any, .any, .any, .any, .any, .any, .any, .any, .any, .any, .any, .any, .any, .any, .any, .any, .any, .any, .any, .any, .any, .any, .any, .any, .any, .any] ∧ s = st) (n := 3) ?_ ⟨0, by omega, by simp, rfl, rfl⟩ ?_
  · repeat (first | exact leEnv_nil | refine leEnv_any _ ?_ | refine leEnv_same _ ?_ | refine leEnv_norm _ ?_)
  rintro q e s ⟨k, hk, hne, rfl, rfl⟩
  by_cases hlt : k < 3
  · have c1 : (k : Int) < (twoL.length : Int) := by show (k : Int) < 3; omega
    have hw : IntKind.i64.wrap ((k : Int) + 1) = ((k + 1 : Nat) : Int) := by rw [IntWalk.i64_in _ (by omega)]; rfl
    have hg := at_num (l := twoL) (k := k) hlt
    by_cases he : twoL.getD k 0 = n
    · rw [if_pos (mem_of hlt he)] at h
      have b : (twoL.getD k 0 == n) = true := beq_iff_eq.2 he
      simp (maxSteps := 2000000) only [↓reduceIte, ↓c_condI, ↓c_seqH, ↓c_blockH, ↓then_nH, ↓then_rH, ↓then_eH, ↓block_nH, ↓block_rH, ↓block_eH, go_sem, List.length_map, c1, hg, b]
      exact ⟨⟨[], by simp⟩, .sc _, h⟩
    · have b : (twoL.getD k 0 == n) = false := beq_eq_false_iff_ne.2 he
      simp (maxSteps := 2000000) only [↓reduceIte, ↓c_condI, ↓c_seqH, ↓c_blockH, ↓then_nH, ↓then_rH, ↓then_eH, ↓block_nH, ↓block_rH, ↓block_eH, go_sem, List.length_map, c1, hg, b, hw]
      refine ⟨q - 1, _, by omega, ?_, k + 1, by omega, lt_step hne he, rfl⟩
      repeat (first | exact leEnv_nil | refine leEnv_any _ ?_ | refine leEnv_same _ ?_ | refine leEnv_norm _ ?_)
  obtain rfl : k = 3 := by omega
  have c1 : (((3 : Nat) : Int) < (twoL.length : Int)) = False := eq_false (by decide)
  rw [if_neg (not_mem_of (l := twoL) hne)] at h
  simp (maxSteps := 2000000) only [↓reduceIte, ↓c_condI, ↓c_seqH, ↓c_blockH, ↓then_nH, ↓then_rH, ↓then_eH, ↓block_nH, ↓block_rH, ↓block_eH, go_sem, List.length_map, c1]
  refine awp_rounds [] (fun q e s' => ∃ k, k + q = 17 ∧ (∀ j, j < k → noneL.getD j 0 ≠ n) ∧ e = [i64 n, .any, .any, .any, .slice .full 1 (noneL.map i64), .any, i64 k, .any, .any, .any, .any, .any, .any, .any, .any, .any, .any, .any, .any, .any, .any, .any, .any, .any, .any, .any, .any, .any, .any, .any, .any, .any, .any, .any, .any, .any, .any, .any, .any] ∧ s' = s) (n := 17) ?_ ⟨0, by omega, by simp, rfl, rfl⟩ ?_
  · repeat (first | exact leEnv_nil | refine leEnv_any _ ?_ | refine leEnv_same _ ?_ | refine leEnv_norm _ ?_)
  clear hne hk q
  rintro q e s' ⟨k, hk, hne, rfl, rfl⟩
  by_cases hlt : k < 17
  · have c1 : (k : Int) < (noneL.length : Int) := by show (k : Int) < 17; omega
    have hw : IntKind.i64.wrap ((k : Int) + 1) = ((k + 1 : Nat) : Int) := by rw [IntWalk.i64_in _ (by omega)]; rfl
    have hg := at_num (l := noneL) (k := k) hlt
    by_cases he : noneL.getD k 0 = n
    · rw [if_pos (mem_of hlt he)] at h
      have b : (noneL.getD k 0 == n) = true := beq_iff_eq.2 he
      simp (maxSteps := 2000000) only [↓reduceIte, ↓c_condI, ↓c_seqH, ↓c_blockH, ↓then_nH, ↓then_rH, ↓then_eH, ↓block_nH, ↓block_rH, ↓block_eH, go_sem, List.length_map, c1, hg, b]
      exact ⟨⟨[], by simp⟩, .sc _, h⟩
    · have b : (noneL.getD k 0 == n) = false := beq_eq_false_iff_ne.2 he
      simp (maxSteps := 2000000) only [↓reduceIte, ↓c_condI, ↓c_seqH, ↓c_blockH, ↓then_nH, ↓then_rH, ↓then_eH, ↓block_nH, ↓block_rH, ↓block_eH, go_sem, List.length_map, c1, hg, b, hw]
      refine ⟨q - 1, _, by omega, ?_, k + 1, by omega, lt_step hne he, rfl⟩
      repeat (first | exact leEnv_nil | refine leEnv_any _ ?_ | refine leEnv_same _ ?_ | refine leEnv_norm _ ?_)
  obtain rfl : k = 17 := by omega
  have c1 : (((17 : Nat) : Int) < (noneL.length : Int)) = False := eq_false (by decide)
  rw [if_neg (not_mem_of (l := noneL) hne)] at h
  simp (maxSteps := 2000000) only [↓reduceIte, ↓c_condI, ↓c_seqH, ↓c_blockH, ↓then_nH, ↓then_rH, ↓then_eH, ↓block_nH, ↓block_rH, ↓block_eH, go_sem, List.length_map, c1]
  exact ⟨⟨[], by simp⟩, .sc _, h⟩
set_option maxHeartbeats 4000000 in
theorem rInstr_c (i : In) (K : SV → St → Prop) (st : St) (h : K (.sc (.bool (instrB i))) st) : ACalls Tryz.prog 64 [inSV i] K st := by
  by_cases u0 : usesF i.op < 0
  · have e : instrB i = false := by
      cases e : instrB i with
      | false => rfl
      | true =>
        unfold instrB inB at e
        simp only [Bool.and_eq_true, decide_eq_true_eq] at e
        omega
    rw [e] at h
    refine acalls_go_pure [] Tryz.func64 rfl Tryz.results64 Tryz.ntmps64 ?_
    simp only [↓reduceIte, ↓c_condI, ↓c_seqH, ↓c_blockH, ↓then_nH, ↓then_rH, ↓then_eH, ↓block_nH, ↓block_rH, ↓block_eH, go_sem, inSV, inCells]
    refine rUses_c _ _ _ ?_
    simp (maxSteps := 2000000) only [↓reduceIte, ↓c_condI, ↓c_seqH, ↓c_blockH, ↓then_nH, ↓then_rH, ↓then_eH, ↓block_nH, ↓block_rH, ↓block_eH, go_sem, u0]
    exact ⟨⟨[], by simp⟩, .sc _, h⟩
  by_cases u1 : i.a < 0
  · have e : instrB i = false := by
      cases e : instrB i with
      | false => rfl
      | true =>
        unfold instrB inB at e
        simp only [Bool.and_eq_true, decide_eq_true_eq] at e
        omega
    rw [e] at h
    refine acalls_go_pure [] Tryz.func64 rfl Tryz.results64 Tryz.ntmps64 ?_
    simp only [↓reduceIte, ↓c_condI, ↓c_seqH, ↓c_blockH, ↓then_nH, ↓then_rH, ↓then_eH, ↓block_nH, ↓block_rH, ↓block_eH, go_sem, inSV, inCells]
    refine rUses_c _ _ _ ?_
    simp (maxSteps := 2000000) only [↓reduceIte, ↓c_condI, ↓c_seqH, ↓c_blockH, ↓then_nH, ↓then_rH, ↓then_eH, ↓block_nH, ↓block_rH, ↓block_eH, go_sem, u0, u1]
    exact ⟨⟨[], by simp⟩, .sc _, h⟩
  by_cases u2 : 65535 < i.a
  · have e : instrB i = false := by
      cases e : instrB i with
      | false => rfl
      | true =>
        unfold instrB inB at e
        simp only [Bool.and_eq_true, decide_eq_true_eq] at e
        omega
    rw [e] at h
    refine acalls_go_pure [] Tryz.func64 rfl Tryz.results64 Tryz.ntmps64 ?_
    simp only [↓reduceIte, ↓c_condI, ↓c_seqH, ↓c_blockH, ↓then_nH, ↓then_rH, ↓then_eH, ↓block_nH, ↓block_rH, ↓block_eH, go_sem, inSV, inCells]
    refine rUses_c _ _ _ ?_
    simp (maxSteps := 2000000) only [↓reduceIte, ↓c_condI, ↓c_seqH, ↓c_blockH, ↓then_nH, ↓then_rH, ↓then_eH, ↓block_nH, ↓block_rH, ↓block_eH, go_sem, u0, u1, u2]
    exact ⟨⟨[], by simp⟩, .sc _, h⟩
  by_cases u3 : i.b < 0
  · have e : instrB i = false := by
      cases e : instrB i with
      | false => rfl
      | true =>
        unfold instrB inB at e
        simp only [Bool.and_eq_true, decide_eq_true_eq] at e
        omega
    rw [e] at h
    refine acalls_go_pure [] Tryz.func64 rfl Tryz.results64 Tryz.ntmps64 ?_
    simp only [↓reduceIte, ↓c_condI, ↓c_seqH, ↓c_blockH, ↓then_nH, ↓then_rH, ↓then_eH, ↓block_nH, ↓block_rH, ↓block_eH, go_sem, inSV, inCells]
    refine rUses_c _ _ _ ?_
    simp (maxSteps := 2000000) only [↓reduceIte, ↓c_condI, ↓c_seqH, ↓c_blockH, ↓then_nH, ↓then_rH, ↓then_eH, ↓block_nH, ↓block_rH, ↓block_eH, go_sem, u0, u1, u2, u3]
    exact ⟨⟨[], by simp⟩, .sc _, h⟩
  by_cases u4 : 65535 < i.b
  · have e : instrB i = false := by
      cases e : instrB i with
      | false => rfl
      | true =>
        unfold instrB inB at e
        simp only [Bool.and_eq_true, decide_eq_true_eq] at e
        omega
    rw [e] at h
    refine acalls_go_pure [] Tryz.func64 rfl Tryz.results64 Tryz.ntmps64 ?_
    simp only [↓reduceIte, ↓c_condI, ↓c_seqH, ↓c_blockH, ↓then_nH, ↓then_rH, ↓then_eH, ↓block_nH, ↓block_rH, ↓block_eH, go_sem, inSV, inCells]
    refine rUses_c _ _ _ ?_
    simp (maxSteps := 2000000) only [↓reduceIte, ↓c_condI, ↓c_seqH, ↓c_blockH, ↓then_nH, ↓then_rH, ↓then_eH, ↓block_nH, ↓block_rH, ↓block_eH, go_sem, u0, u1, u2, u3, u4]
    exact ⟨⟨[], by simp⟩, .sc _, h⟩
  have e : instrB i = ((decide (0 < usesF i.op) || i.a == 0) && (decide (1 < usesF i.op) || i.b == 0)) := by
    unfold instrB inB
    simp only [show 0 ≤ usesF i.op by omega, show (0 : Int) ≤ i.a by omega, show i.a ≤ 65535 by omega, show (0 : Int) ≤ i.b by omega, show i.b ≤ 65535 by omega, decide_true, Bool.true_and]
    rfl
  rw [e] at h
  by_cases v1 : 0 < usesF i.op <;> by_cases v2 : 1 < usesF i.op <;> cases a0 : (i.a == 0) <;> cases b0 : (i.b == 0)
  all_goals
    simp only [v1, v2, a0, b0, decide_true, decide_false, Bool.or_true, Bool.true_or, Bool.or_false, Bool.false_or, Bool.and_true, Bool.and_false, Bool.true_and, Bool.false_and] at h
    refine acalls_go_pure [] Tryz.func64 rfl Tryz.results64 Tryz.ntmps64 ?_
    simp only [↓reduceIte, ↓c_condI, ↓c_seqH, ↓c_blockH, ↓then_nH, ↓then_rH, ↓then_eH, ↓block_nH, ↓block_rH, ↓block_eH, go_sem, inSV, inCells]
    refine rUses_c _ _ _ ?_
    simp (maxSteps := 2000000) only [↓reduceIte, ↓c_condI, ↓c_seqH, ↓c_blockH, ↓then_nH, ↓then_rH, ↓then_eH, ↓block_nH, ↓block_rH, ↓block_eH, go_sem, u0, u1, u2, u3, u4, v1, v2, a0, b0]
    exact ⟨⟨[], by simp⟩, .sc _, h⟩
end Go.Proofs
