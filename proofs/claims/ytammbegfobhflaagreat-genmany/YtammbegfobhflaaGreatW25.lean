/- What the document says a code may be (selvageref13.May). -/
import Derived.Test.YtammbegfobhflaaGreatW24
import Derived.Test.YtammbegfobhflaaGreatN1
set_option linter.all false
set_option linter.unusedSimpArgs false
set_option linter.unusedVariables false
set_option maxRecDepth 8000
namespace Go.AL
theorem ex_on {S T : St} (h : ∃ ex, S = T ++ ex) (l : List Ob) : ∃ ex, S ++ l = T ++ ex := by
  obtain ⟨ex, rfl⟩ := h
  exact ⟨ex ++ l, by simp⟩
theorem all_not {α : Type} {q : α → Bool} {d : α} {l : List α} {k : Nat} (hk : k < l.length) (h : q (l.getD k d) = false) : l.all q = false := by
  cases e : l.all q with
  | false => rfl
  | true =>
    have := List.all_eq_true.1 e (l.getD k d) (by simp [List.getD_eq_getElem?_getD, hk])
    rw [h] at this
    cases this
theorem all_yes {α : Type} {q : α → Bool} {d : α} {l : List α} (h : ∀ j, j < l.length → q (l.getD j d) = true) : l.all q = true := by
  rw [List.all_eq_true]
  intro x hx
  obtain ⟨j, hj, rfl⟩ := List.getElem_of_mem hx
  have := h j hj
  simpa [List.getD_eq_getElem?_getD, hj] using this
theorem at_map {α : Type} (enc : α → SV) (d : α) {l : List α} {k : Nat} (h : k < l.length) : (l.map enc).getD k .any = enc (l.getD k d) := by simp [List.getD_eq_getElem?_getD, h]
end Go.AL
namespace Go.Proofs
open Go Go.AL
set_option maxHeartbeats 8000000 in
theorem rMay_c {m1 m2 m3 : AL.Mode} {z1 z2 z3 : Nat} (c : Cd) (hz : CdZ m1 m2 m3 z1 z2 z3 c) (K : SV → St → Prop) (st : St) (h : K (.sc (.bool (mayF c))) st) : ACalls Tryz.prog 39 [.agg (cdCells m1 m2 m3 z1 z2 z3 c)] K st := by
  by_cases u0 : (c.funs.length : Int) < 1
  · have e : mayF c = false := by
      cases e : mayF c with
      | false => rfl
      | true =>
        unfold mayF inB at e
        simp only [Bool.and_eq_true, decide_eq_true_eq] at e
        omega
    rw [e] at h
    refine acalls_go_pure [] Tryz.func39 rfl Tryz.results39 Tryz.ntmps39 ?_
    simp (maxSteps := 2000000) only [↓reduceIte, ↓c_condI, ↓c_seqH, ↓c_blockH, ↓then_nH, ↓then_rH, ↓then_eH, ↓block_nH, ↓block_rH, ↓block_eH, go_sem, cdCells, List.length_map, u0]
    exact ⟨⟨[], by simp⟩, .sc _, h⟩
  by_cases u1 : 120 < (c.funs.length : Int)
  · have e : mayF c = false := by
      cases e : mayF c with
      | false => rfl
      | true =>
        unfold mayF inB at e
        simp only [Bool.and_eq_true, decide_eq_true_eq] at e
        omega
    rw [e] at h
    refine acalls_go_pure [] Tryz.func39 rfl Tryz.results39 Tryz.ntmps39 ?_
    simp (maxSteps := 2000000) only [↓reduceIte, ↓c_condI, ↓c_seqH, ↓c_blockH, ↓then_nH, ↓then_rH, ↓then_eH, ↓block_nH, ↓block_rH, ↓block_eH, go_sem, cdCells, List.length_map, u0, u1]
    exact ⟨⟨[], by simp⟩, .sc _, h⟩
  by_cases u2 : 120 < (c.ints.length : Int)
  · have e : mayF c = false := by
      cases e : mayF c with
      | false => rfl
      | true =>
        unfold mayF inB at e
        simp only [Bool.and_eq_true, decide_eq_true_eq] at e
        omega
    rw [e] at h
    refine acalls_go_pure [] Tryz.func39 rfl Tryz.results39 Tryz.ntmps39 ?_
    simp (maxSteps := 2000000) only [↓reduceIte, ↓c_condI, ↓c_seqH, ↓c_blockH, ↓then_nH, ↓then_rH, ↓then_eH, ↓block_nH, ↓block_rH, ↓block_eH, go_sem, cdCells, List.length_map, u0, u1, u2]
    exact ⟨⟨[], by simp⟩, .sc _, h⟩
  by_cases u3 : 120 < (c.texts.length : Int)
  · have e : mayF c = false := by
      cases e : mayF c with
      | false => rfl
      | true =>
        unfold mayF inB at e
        simp only [Bool.and_eq_true, decide_eq_true_eq] at e
        omega
    rw [e] at h
    refine acalls_go_pure [] Tryz.func39 rfl Tryz.results39 Tryz.ntmps39 ?_
    simp (maxSteps := 2000000) only [↓reduceIte, ↓c_condI, ↓c_seqH, ↓c_blockH, ↓then_nH, ↓then_rH, ↓then_eH, ↓block_nH, ↓block_rH, ↓block_eH, go_sem, cdCells, List.length_map, u0, u1, u2, u3]
    exact ⟨⟨[], by simp⟩, .sc _, h⟩
  by_cases u4 : c.lets < 0
  · have e : mayF c = false := by
      cases e : mayF c with
      | false => rfl
      | true =>
        unfold mayF inB at e
        simp only [Bool.and_eq_true, decide_eq_true_eq] at e
        omega
    rw [e] at h
    refine acalls_go_pure [] Tryz.func39 rfl Tryz.results39 Tryz.ntmps39 ?_
    simp (maxSteps := 2000000) only [↓reduceIte, ↓c_condI, ↓c_seqH, ↓c_blockH, ↓then_nH, ↓then_rH, ↓then_eH, ↓block_nH, ↓block_rH, ↓block_eH, go_sem, cdCells, List.length_map, u0, u1, u2, u3, u4]
    exact ⟨⟨[], by simp⟩, .sc _, h⟩
  by_cases u5 : 60 < c.lets
  · have e : mayF c = false := by
      cases e : mayF c with
      | false => rfl
      | true =>
        unfold mayF inB at e
        simp only [Bool.and_eq_true, decide_eq_true_eq] at e
        omega
    rw [e] at h
    refine acalls_go_pure [] Tryz.func39 rfl Tryz.results39 Tryz.ntmps39 ?_
    simp (maxSteps := 2000000) only [↓reduceIte, ↓c_condI, ↓c_seqH, ↓c_blockH, ↓then_nH, ↓then_rH, ↓then_eH, ↓block_nH, ↓block_rH, ↓block_eH, go_sem, cdCells, List.length_map, u0, u1, u2, u3, u4, u5]
    exact ⟨⟨[], by simp⟩, .sc _, h⟩
  have e : mayF c = (c.funs.all bodyB && (c.ints.all (fun n => inB n (-4611686018427387904) 4611686018427387903) && c.texts.all fun s => decide (s.size ≤ 60))) := by
    unfold mayF inB
    simp only [show (1 : Int) ≤ (c.funs.length : Int) by omega, show (c.funs.length : Int) ≤ 120 by omega, show c.ints.length ≤ 120 by omega, show c.texts.length ≤ 120 by omega, show (0 : Int) ≤ c.lets by omega, show c.lets ≤ 60 by omega, decide_true, Bool.true_and, Bool.and_true]
  rw [e] at h
  clear e
  refine acalls_go_pure [] Tryz.func39 rfl Tryz.results39 Tryz.ntmps39 ?_
  simp (maxSteps := 2000000) only [↓reduceIte, ↓c_condI, ↓c_seqH, ↓c_blockH, ↓then_nH, ↓then_rH, ↓then_eH, ↓block_nH, ↓block_rH, ↓block_eH, go_sem, cdCells, List.length_map, u0, u1, u2, u3, u4, u5]
  have hfl : c.funs.length ≤ 120 := by omega
  have hil : c.ints.length ≤ 120 := by omega
  have htl : c.texts.length ≤ 120 := by omega
  clear u0 u1 u2 u3 u4 u5
  refine awp_rounds [] (fun q e s => ∃ k, k + q = c.ints.length ∧ (∀ j, j < k → inB (c.ints.getD j 0) (-4611686018427387904) 4611686018427387903 = true) ∧ e = [.any, .ref (cdCells m1 m2 m3 z1 z2 z3 c), .any, i64 k, .any, .any, .any, .any, .any, .any, .any, .any, .any, .any, .any, .any, .any, .any, .any, .any, .any, .any, .any, .any, .any, .any, .any, .any, .any, .any, .any, .any, .any, .any, .any, .any, .any, .any, .any, .any, .any, .any, .any, .any, .any, .any, .any, .any, .any, .any, .any, .any, .any, .any, .any, .any, .any, .any, .any, .any, .any, .any, .any, .any, .any, .any, .any, .any, .any, .any, .any, .any, .any, .any, .any, .any, .any, .any, .any, .any, .any, .any, .any, .any, .any, .any, .any, .any, .any, .any, .any, .any, .any, .any, .any, .any, .any, .any, .any, .any, .any, .any, .any, .any, .any, .any, .any, .any, .any, .any, .any, .any, .any, .any, .any, .any, .any, .any, .any, .any, .any, .any, .any, .any, .any, .any, .any, .any, .any, .any, .any, .any, .any, .any, .any, .any, .any, .any, .any, .any, .any, .any, .any] ∧ s = st) (n := c.ints.length) ?_ ⟨0, by omega, by simp, rfl, rfl⟩ ?_
  · repeat (first | exact leEnv_nil | refine leEnv_any _ ?_ | refine leEnv_same _ ?_ | refine leEnv_norm _ ?_)
  rintro q e s ⟨k, hk, hne, rfl, rfl⟩
  by_cases hlt : k < c.ints.length
  · have c1 : (k : Int) < (c.ints.length : Int) := by omega
    have hzz := hz.i (fun e => by rw [e] at hlt; exact absurd hlt (by simp))
    have hw : IntKind.i64.wrap ((k : Int) + 1) = ((k + 1 : Nat) : Int) := by rw [IntWalk.i64_in _ (by omega)]; rfl
    have hg := at_map i64 0 (l := c.ints) (k := k) hlt
    by_cases b1 : c.ints.getD k 0 < -4611686018427387904
    · rw [all_not (d := 0) (q := fun n => inB n (-4611686018427387904) 4611686018427387903) hlt (by simp only [inB]; rw [decide_eq_false (by omega)]; rfl), Bool.false_and, Bool.and_false] at h
      simp (maxSteps := 2000000) only [↓reduceIte, ↓c_condI, ↓c_seqH, ↓c_blockH, ↓then_nH, ↓then_rH, ↓then_eH, ↓block_nH, ↓block_rH, ↓block_eH, go_sem, cdCells, List.length_map, c1, hzz, hg, b1]
      exact ⟨⟨[], by simp⟩, .sc _, h⟩
    by_cases b2 : 4611686018427387903 < c.ints.getD k 0
    · rw [all_not (d := 0) (q := fun n => inB n (-4611686018427387904) 4611686018427387903) hlt (by simp only [inB]; rw [decide_eq_false (p := _ ≤ (4611686018427387903 : Int)) (by omega), Bool.and_false]), Bool.false_and, Bool.and_false] at h
      simp (maxSteps := 2000000) only [↓reduceIte, ↓c_condI, ↓c_seqH, ↓c_blockH, ↓then_nH, ↓then_rH, ↓then_eH, ↓block_nH, ↓block_rH, ↓block_eH, go_sem, cdCells, List.length_map, c1, hzz, hg, b1, b2]
      exact ⟨⟨[], by simp⟩, .sc _, h⟩
    have he : inB (c.ints.getD k 0) (-4611686018427387904) 4611686018427387903 = true := by simp only [inB, Bool.and_eq_true, decide_eq_true_eq]; omega
    simp (maxSteps := 2000000) only [↓reduceIte, ↓c_condI, ↓c_seqH, ↓c_blockH, ↓then_nH, ↓then_rH, ↓then_eH, ↓block_nH, ↓block_rH, ↓block_eH, go_sem, cdCells, List.length_map, c1, hzz, hg, b1, b2, hw]
    refine ⟨q - 1, _, by omega, ?_, k + 1, by omega, lt_step hne he, rfl⟩
    repeat (first | exact leEnv_nil | refine leEnv_any _ ?_ | refine leEnv_same _ ?_ | refine leEnv_norm _ ?_)
  obtain rfl : k = c.ints.length := by omega
  have c1 : ((c.ints.length : Int) < (c.ints.length : Int)) = False := eq_false (by omega)
  rw [all_yes (q := fun n => inB n (-4611686018427387904) 4611686018427387903) hne, Bool.true_and] at h
  clear hne hk hlt
  simp (maxSteps := 2000000) only [↓reduceIte, ↓c_condI, ↓c_seqH, ↓c_blockH, ↓then_nH, ↓then_rH, ↓then_eH, ↓block_nH, ↓block_rH, ↓block_eH, go_sem, cdCells, List.length_map, c1]
  refine awp_rounds [] (fun q e s' => ∃ k, k + q = c.texts.length ∧ (∀ j, j < k → decide ((c.texts.getD j default).size ≤ 60) = true) ∧ e = [.any, .ref (cdCells m1 m2 m3 z1 z2 z3 c), .any, .any, i64 k, .any, .any, .any, .any, .any, .any, .any, .any, .any, .any, .any, .any, .any, .any, .any, .any, .any, .any, .any, .any, .any, .any, .any, .any, .any, .any, .any, .any, .any, .any, .any, .any, .any, .any, .any, .any, .any, .any, .any, .any, .any, .any, .any, .any, .any, .any, .any, .any, .any, .any, .any, .any, .any, .any, .any, .any, .any, .any, .any, .any, .any, .any, .any, .any, .any, .any, .any, .any, .any, .any, .any, .any, .any, .any, .any, .any, .any, .any, .any, .any, .any, .any, .any, .any, .any, .any, .any, .any, .any, .any, .any, .any, .any, .any, .any, .any, .any, .any, .any, .any, .any, .any, .any, .any, .any, .any, .any, .any, .any, .any, .any, .any, .any, .any, .any, .any, .any, .any, .any, .any, .any, .any, .any, .any, .any, .any, .any, .any, .any, .any, .any, .any, .any, .any, .any, .any, .any, .any] ∧ s' = s) (n := c.texts.length) ?_ ⟨0, by omega, by simp, rfl, rfl⟩ ?_
  · repeat (first | exact leEnv_nil | refine leEnv_any _ ?_ | refine leEnv_same _ ?_ | refine leEnv_norm _ ?_)
  rintro q e s' ⟨k, hk, hne, rfl, rfl⟩
  by_cases hlt : k < c.texts.length
  · have c1 : (k : Int) < (c.texts.length : Int) := by omega
    have hzz := hz.t (fun e => by rw [e] at hlt; exact absurd hlt (by simp))
    have hw : IntKind.i64.wrap ((k : Int) + 1) = ((k + 1 : Nat) : Int) := by rw [IntWalk.i64_in _ (by omega)]; rfl
    have hg := at_map str default (l := c.texts) (k := k) hlt
    by_cases b1 : 60 < ((c.texts.getD k default).size : Int)
    · rw [all_not (d := default) (q := fun s : ByteArray => decide (s.size ≤ 60)) hlt (decide_eq_false (by omega)), Bool.and_false] at h
      simp (maxSteps := 2000000) only [↓reduceIte, ↓c_condI, ↓c_seqH, ↓c_blockH, ↓then_nH, ↓then_rH, ↓then_eH, ↓block_nH, ↓block_rH, ↓block_eH, go_sem, cdCells, List.length_map, c1, hzz, hg, b1]
      exact ⟨⟨[], by simp⟩, .sc _, h⟩
    have he : decide ((c.texts.getD k default).size ≤ 60) = true := decide_eq_true (by omega)
    simp (maxSteps := 2000000) only [↓reduceIte, ↓c_condI, ↓c_seqH, ↓c_blockH, ↓then_nH, ↓then_rH, ↓then_eH, ↓block_nH, ↓block_rH, ↓block_eH, go_sem, cdCells, List.length_map, c1, hzz, hg, b1, hw]
    refine ⟨q - 1, _, by omega, ?_, k + 1, by omega, lt_step hne he, rfl⟩
    repeat (first | exact leEnv_nil | refine leEnv_any _ ?_ | refine leEnv_same _ ?_ | refine leEnv_norm _ ?_)
  obtain rfl : k = c.texts.length := by omega
  have c1 : ((c.texts.length : Int) < (c.texts.length : Int)) = False := eq_false (by omega)
  rw [all_yes (q := fun s : ByteArray => decide (s.size ≤ 60)) hne, Bool.and_true] at h
  clear hne hk hlt
  simp (maxSteps := 2000000) only [↓reduceIte, ↓c_condI, ↓c_seqH, ↓c_blockH, ↓then_nH, ↓then_rH, ↓then_eH, ↓block_nH, ↓block_rH, ↓block_eH, go_sem, cdCells, List.length_map, c1]
  refine awp_rounds [] (fun q e s => ∃ k, k + q = c.funs.length ∧ (∀ j, j < k → bodyB (c.funs.getD j default) = true) ∧ e = [.any, .ref (cdCells m1 m2 m3 z1 z2 z3 c), .any, .any, .any, i64 k, .any, .any, .any, .any, .any, .any, .any, .any, .any, .any, .any, .any, .any, .any, .any, .any, .any, .any, .any, .any, .any, .any, .any, .any, .any, .any, .any, .any, .any, .any, .any, .any, .any, .any, .any, .any, .any, .any, .any, .any, .any, .any, .any, .any, .any, .any, .any, .any, .any, .any, .any, .any, .any, .any, .any, .any, .any, .any, .any, .any, .any, .any, .any, .any, .any, .any, .any, .any, .any, .any, .any, .any, .any, .any, .any, .any, .any, .any, .any, .any, .any, .any, .any, .any, .any, .any, .any, .any, .any, .any, .any, .any, .any, .any, .any, .any, .any, .any, .any, .any, .any, .any, .any, .any, .any, .any, .any, .any, .any, .any, .any, .any, .any, .any, .any, .any, .any, .any, .any, .any, .any, .any, .any, .any, .any, .any, .any, .any, .any, .any, .any, .any, .any, .any, .any, .any, .any] ∧ ∃ ex, s = s' ++ ex) (n := c.funs.length) ?_ ⟨0, by omega, by simp, rfl, [], by simp⟩ ?_
  · repeat (first | exact leEnv_nil | refine leEnv_any _ ?_ | refine leEnv_same _ ?_ | refine leEnv_norm _ ?_)
  rintro q e s ⟨k, hk, hne, rfl, hex⟩
  by_cases hlt : k < c.funs.length
  · have c1 : (k : Int) < (c.funs.length : Int) := by omega
    have hzz := hz.f (fun e => by rw [e] at hlt; exact absurd hlt (by simp))
    have hw : IntKind.i64.wrap ((k : Int) + 1) = ((k + 1 : Nat) : Int) := by rw [IntWalk.i64_in _ (by omega)]; rfl
    have hg := at_map bdSV default (l := c.funs) (k := k) hlt
    subst hzz
    obtain ⟨f, hf⟩ : ∃ f, c.funs.getD k default = f := ⟨_, rfl⟩
    rw [hf] at hg
    have no : bodyB f = false → K (.sc (.bool false)) s' := fun hb => by
      rw [all_not (d := default) (q := bodyB) hlt (by rw [hf]; exact hb)] at h
      exact h
    by_cases v0 : f.kept < 0
    · have e : bodyB f = false := by
        cases e : bodyB f with
        | false => rfl
        | true =>
          unfold bodyB inB at e
          simp only [Bool.and_eq_true, decide_eq_true_eq] at e
          omega
      simp (maxSteps := 2000000) only [↓reduceIte, ↓c_condI, ↓c_seqH, ↓c_blockH, ↓then_nH, ↓then_rH, ↓then_eH, ↓block_nH, ↓block_rH, ↓block_eH, go_sem, cdCells, bdSV, insSV, List.length_map, c1, hg, hw, v0]
      exact ⟨ex_on hex _, .sc _, no e⟩
    by_cases v1 : 59 < f.kept
    · have e : bodyB f = false := by
        cases e : bodyB f with
        | false => rfl
        | true =>
          unfold bodyB inB at e
          simp only [Bool.and_eq_true, decide_eq_true_eq] at e
          omega
      simp (maxSteps := 2000000) only [↓reduceIte, ↓c_condI, ↓c_seqH, ↓c_blockH, ↓then_nH, ↓then_rH, ↓then_eH, ↓block_nH, ↓block_rH, ↓block_eH, go_sem, cdCells, bdSV, insSV, List.length_map, c1, hg, hw, v0, v1]
      exact ⟨ex_on hex _, .sc _, no e⟩
    by_cases v2 : f.locals < 0
    · have e : bodyB f = false := by
        cases e : bodyB f with
        | false => rfl
        | true =>
          unfold bodyB inB at e
          simp only [Bool.and_eq_true, decide_eq_true_eq] at e
          omega
      simp (maxSteps := 2000000) only [↓reduceIte, ↓c_condI, ↓c_seqH, ↓c_blockH, ↓then_nH, ↓then_rH, ↓then_eH, ↓block_nH, ↓block_rH, ↓block_eH, go_sem, cdCells, bdSV, insSV, List.length_map, c1, hg, hw, v0, v1, v2]
      exact ⟨ex_on hex _, .sc _, no e⟩
    by_cases v3 : 60 < f.locals
    · have e : bodyB f = false := by
        cases e : bodyB f with
        | false => rfl
        | true =>
          unfold bodyB inB at e
          simp only [Bool.and_eq_true, decide_eq_true_eq] at e
          omega
      simp (maxSteps := 2000000) only [↓reduceIte, ↓c_condI, ↓c_seqH, ↓c_blockH, ↓then_nH, ↓then_rH, ↓then_eH, ↓block_nH, ↓block_rH, ↓block_eH, go_sem, cdCells, bdSV, insSV, List.length_map, c1, hg, hw, v0, v1, v2, v3]
      exact ⟨ex_on hex _, .sc _, no e⟩
    by_cases v4 : f.stack < 1
    · have e : bodyB f = false := by
        cases e : bodyB f with
        | false => rfl
        | true =>
          unfold bodyB inB at e
          simp only [Bool.and_eq_true, decide_eq_true_eq] at e
          omega
      simp (maxSteps := 2000000) only [↓reduceIte, ↓c_condI, ↓c_seqH, ↓c_blockH, ↓then_nH, ↓then_rH, ↓then_eH, ↓block_nH, ↓block_rH, ↓block_eH, go_sem, cdCells, bdSV, insSV, List.length_map, c1, hg, hw, v0, v1, v2, v3, v4]
      exact ⟨ex_on hex _, .sc _, no e⟩
    by_cases v5 : 60 < f.stack
    · have e : bodyB f = false := by
        cases e : bodyB f with
        | false => rfl
        | true =>
          unfold bodyB inB at e
          simp only [Bool.and_eq_true, decide_eq_true_eq] at e
          omega
      simp (maxSteps := 2000000) only [↓reduceIte, ↓c_condI, ↓c_seqH, ↓c_blockH, ↓then_nH, ↓then_rH, ↓then_eH, ↓block_nH, ↓block_rH, ↓block_eH, go_sem, cdCells, bdSV, insSV, List.length_map, c1, hg, hw, v0, v1, v2, v3, v4, v5]
      exact ⟨ex_on hex _, .sc _, no e⟩
    by_cases v6 : (f.code.length : Int) < 1
    · have e : bodyB f = false := by
        cases e : bodyB f with
        | false => rfl
        | true =>
          unfold bodyB inB at e
          simp only [Bool.and_eq_true, decide_eq_true_eq] at e
          omega
      simp (maxSteps := 2000000) only [↓reduceIte, ↓c_condI, ↓c_seqH, ↓c_blockH, ↓then_nH, ↓then_rH, ↓then_eH, ↓block_nH, ↓block_rH, ↓block_eH, go_sem, cdCells, bdSV, insSV, List.length_map, c1, hg, hw, v0, v1, v2, v3, v4, v5, v6]
      exact ⟨ex_on hex _, .sc _, no e⟩
    by_cases v7 : 400 < (f.code.length : Int)
    · have e : bodyB f = false := by
        cases e : bodyB f with
        | false => rfl
        | true =>
          unfold bodyB inB at e
          simp only [Bool.and_eq_true, decide_eq_true_eq] at e
          omega
      simp (maxSteps := 2000000) only [↓reduceIte, ↓c_condI, ↓c_seqH, ↓c_blockH, ↓then_nH, ↓then_rH, ↓then_eH, ↓block_nH, ↓block_rH, ↓block_eH, go_sem, cdCells, bdSV, insSV, List.length_map, c1, hg, hw, v0, v1, v2, v3, v4, v5, v6, v7]
      exact ⟨ex_on hex _, .sc _, no e⟩
    have e : bodyB f = f.code.all instrB := by
      unfold bodyB inB
      simp only [show (0 : Int) ≤ f.kept by omega, show f.kept ≤ 59 by omega, show (0 : Int) ≤ f.locals by omega, show f.locals ≤ 60 by omega, show (1 : Int) ≤ f.stack by omega, show f.stack ≤ 60 by omega, show (1 : Int) ≤ (f.code.length : Int) by omega, show (f.code.length : Int) ≤ 400 by omega, decide_true, Bool.true_and]
    have hcl : f.code.length ≤ 400 := by omega
    simp (maxSteps := 2000000) only [↓reduceIte, ↓c_condI, ↓c_seqH, ↓c_blockH, ↓then_nH, ↓then_rH, ↓then_eH, ↓block_nH, ↓block_rH, ↓block_eH, go_sem, cdCells, bdSV, insSV, List.length_map, c1, hg, hw, v0, v1, v2, v3, v4, v5, v6, v7]
    clear v0 v1 v2 v3 v4 v5 v6 v7
    refine awp_rounds [] (fun q e s2 => ∃ j, j + q = f.code.length ∧ (∀ i, i < j → instrB (f.code.getD i default) = true) ∧ e = [.any, .ref (cdCells m1 m2 m3 4 z2 z3 c), .any, .any, .any, i64 k, .ptr s.length 0, i64 j, .any, .any, .any, .any, .any, .any, .any, .any, .any, .any, .any, .any, .any, .any, .any, .any, .any, .any, .any, .any, .any, .any, .any, .any, .any, .any, .any, .any, .any, .any, .any, .any, .any, .any, .any, .any, .any, .any, .any, .any, .any, .any, .any, .any, .any, .any, .any, .any, .any, .any, .any, .any, .any, .any, .any, .any, .any, .any, .any, .any, .any, .any, .any, .any, .any, .any, .any, .any, .any, .any, .any, .any, .any, .any, .any, .any, .any, .any, .any, .any, .any, .any, .any, .any, .any, .any, .any, .any, .any, .any, .any, .any, .any, .any, .any, .any, .any, .any, .any, .any, .any, .any, .any, .any, .any, .any, .any, .any, .any, .any, .any, .any, .any, .any, .any, .any, .any, .any, .any, .any, .any, .any, .any, .any, .any, .any, .any, .any, .any, .any, .any, .any, .any, .any, .any] ∧ s2 = s ++ [Ob.cells [i64 f.kept, i64 f.locals, i64 f.stack, .slice .imm 3 (f.code.map inSV)]]) (n := f.code.length) ?_ ⟨0, by omega, by simp, rfl, rfl⟩ ?_
    · repeat (first | exact leEnv_nil | refine leEnv_any _ ?_ | refine leEnv_same _ ?_ | refine leEnv_norm _ ?_)
    rintro q2 e2 s2 ⟨j, hj, hnj, rfl, rfl⟩
    by_cases hlj : j < f.code.length
    · have d1 : (j : Int) < (f.code.length : Int) := by omega
      have hwj : IntKind.i64.wrap ((j : Int) + 1) = ((j + 1 : Nat) : Int) := by rw [IntWalk.i64_in _ (by omega)]; rfl
      have hgj := at_map inSV default (l := f.code) (k := j) hlj
      simp (maxSteps := 2000000) only [↓reduceIte, ↓c_condI, ↓c_seqH, ↓c_blockH, ↓then_nH, ↓then_rH, ↓then_eH, ↓block_nH, ↓block_rH, ↓block_eH, go_sem, cdCells, List.length_map, d1, hgj, Tryz.cell_in]
      refine rInstr_c (f.code.getD j default) _ _ ?_
      cases hb : instrB (f.code.getD j default) with
      | false =>
        simp (maxSteps := 2000000) only [↓reduceIte, ↓c_condI, ↓c_seqH, ↓c_blockH, ↓then_nH, ↓then_rH, ↓then_eH, ↓block_nH, ↓block_rH, ↓block_eH, go_sem, hb]
        exact ⟨ex_on hex _, .sc _, no (by rw [e]; exact all_not (d := default) hlj hb)⟩
      | true =>
        simp (maxSteps := 2000000) only [↓reduceIte, ↓c_condI, ↓c_seqH, ↓c_blockH, ↓then_nH, ↓then_rH, ↓then_eH, ↓block_nH, ↓block_rH, ↓block_eH, go_sem, hb, hwj]
        refine ⟨q2 - 1, _, by omega, ?_, j + 1, by omega, lt_step hnj hb, rfl⟩
        repeat (first | exact leEnv_nil | refine leEnv_any _ ?_ | refine leEnv_same _ ?_ | refine leEnv_norm _ ?_)
    obtain rfl : j = f.code.length := by omega
    have d1 : ((f.code.length : Int) < (f.code.length : Int)) = False := eq_false (by omega)
    simp (maxSteps := 2000000) only [↓reduceIte, ↓c_condI, ↓c_seqH, ↓c_blockH, ↓then_nH, ↓then_rH, ↓then_eH, ↓block_nH, ↓block_rH, ↓block_eH, go_sem, cdCells, List.length_map, d1, hw]
    refine ⟨q - 1, _, by omega, ?_, k + 1, by omega, lt_step hne (by rw [hf, e]; exact all_yes hnj), rfl, ex_on hex _⟩
    repeat (first | exact leEnv_nil | refine leEnv_any _ ?_ | refine leEnv_same _ ?_ | refine leEnv_norm _ ?_)
  obtain rfl : k = c.funs.length := by omega
  have c1 : ((c.funs.length : Int) < (c.funs.length : Int)) = False := eq_false (by omega)
  rw [all_yes (q := bodyB) hne] at h
  simp (maxSteps := 2000000) only [↓reduceIte, ↓c_condI, ↓c_seqH, ↓c_blockH, ↓then_nH, ↓then_rH, ↓then_eH, ↓block_nH, ↓block_rH, ↓block_eH, go_sem, cdCells, List.length_map, c1]
  exact ⟨hex, .sc _, h⟩
end Go.Proofs
