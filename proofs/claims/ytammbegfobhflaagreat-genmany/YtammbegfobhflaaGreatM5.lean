/- Whether a code may be (code.May); needs. -/
import Derived.Test.YtammbegfobhflaaGreatW13a
set_option linter.all false
set_option linter.unusedSimpArgs false
set_option linter.unusedVariables false
set_option maxRecDepth 8000
namespace Go.Proofs
open Go Go.AL
set_option maxHeartbeats 4000000 in
theorem odd_c (i : In) (K : SV → St → Prop) (st : St) (h : K (.sc (.bool (!instrB i))) st) : ACalls Tryz.prog 73 [inSV i] K st := by
  have e0 : decide (0 ≤ usesF i.op) = !decide (usesF i.op < 0) := by by_cases h : usesF i.op < 0 <;> simp [h] <;> omega
  have e1 : decide (1 ≤ usesF i.op) = !decide (usesF i.op < 1) := by by_cases h : usesF i.op < 1 <;> simp [h] <;> omega
  have e2 : decide (2 ≤ usesF i.op) = !decide (usesF i.op < 2) := by by_cases h : usesF i.op < 2 <;> simp [h] <;> omega
  unfold instrB at h
  rw [e0, e1, e2] at h
  cases h0 : decide (usesF i.op < 0) with
  | true =>
    rw [h0] at h
    have h0 : (usesF i.op < 0) = True := eq_true (of_decide_eq_true h0)
    refine acalls_go_pure [] Tryz.func73 rfl Tryz.results73 Tryz.ntmps73 ?_
    simp only [go_sem, inSV, inCells]
    refine uses_c i.op _ _ ?_
    simp only [go_sem, h0]
    exact ⟨⟨[], by simp⟩, .sc _, h⟩
  | false =>
    rw [h0] at h
    have h0 : (usesF i.op < 0) = False := eq_false (of_decide_eq_false h0)
    cases ha : inB i.a 0 65535 with
    | false =>
      rw [ha] at h
      refine acalls_go_pure [] Tryz.func73 rfl Tryz.results73 Tryz.ntmps73 ?_
      simp only [go_sem, inSV, inCells]
      refine uses_c i.op _ _ ?_
      simp only [go_sem, h0]
      refine in_c _ _ _ _ _ ?_
      simp only [go_sem, h0, ha]
      exact ⟨⟨[], by simp⟩, .sc _, h⟩
    | true =>
      rw [ha] at h
      cases hb : inB i.b 0 65535 with
      | false =>
        rw [hb] at h
        refine acalls_go_pure [] Tryz.func73 rfl Tryz.results73 Tryz.ntmps73 ?_
        simp only [go_sem, inSV, inCells]
        refine uses_c i.op _ _ ?_
        simp only [go_sem, h0]
        refine in_c _ _ _ _ _ ?_
        simp only [go_sem, h0, ha]
        refine in_c _ _ _ _ _ ?_
        simp only [go_sem, h0, ha, hb]
        exact ⟨⟨[], by simp⟩, .sc _, h⟩
      | true =>
        rw [hb] at h
        by_cases h1 : usesF i.op < 1 <;> cases z1 : (i.a == 0) <;> by_cases h2 : usesF i.op < 2 <;> cases z2 : (i.b == 0)
        all_goals
          simp only [h1, h2, z1, z2, decide_true, decide_false] at h
          have y1 : (i.a != 0) = !(i.a == 0) := rfl
          have y2 : (i.b != 0) = !(i.b == 0) := rfl
          rw [z1] at y1
          rw [z2] at y2
          refine acalls_go_pure [] Tryz.func73 rfl Tryz.results73 Tryz.ntmps73 ?_
          simp only [go_sem, inSV, inCells]
          refine uses_c i.op _ _ ?_
          simp only [go_sem, h0]
          refine in_c _ _ _ _ _ ?_
          simp only [go_sem, h0, ha]
          refine in_c _ _ _ _ _ ?_
          simp only [go_sem, h0, ha, hb, h1, h2, y1, y2]
          exact ⟨⟨[], by simp⟩, .sc _, h⟩
end Go.Proofs
set_option linter.unusedSimpArgs false
set_option linter.unusedVariables false
set_option maxRecDepth 8000
namespace Go.AL
theorem any_not_all {α : Type} (p : α → Bool) (l : List α) : l.any (fun x => !p x) = !l.all p := by
  induction l with
  | nil => rfl
  | cons a r ih => rw [List.any_cons, List.all_cons, ih]; cases p a <;> rfl
theorem inB_le {n a b : Int} (h : inB n a b = true) : a ≤ n ∧ n ≤ b := by
  unfold inB at h
  simpa using h
end Go.AL
namespace Go.Proofs
open Go Go.AL
theorem Tryz.cell_in (i : In) : cellsOf Tryz.prog 56 (inSV i).cells = some (inSV i) := cellsOf_in i Tryz.aagg56 Tryz.asize56
theorem Tryz.cell_bd (f : Bd) : cellsOf Tryz.prog 59 (bdSV f).cells = some (bdSV f) := cellsOf_bd f Tryz.aagg59 Tryz.asize59
theorem Tryz.cell_i (n : Int) : cellsOf Tryz.prog 3 (i64 n).cells = some (i64 n) := by simp only [go_sem]
theorem Tryz.cell_s (n : ByteArray) : cellsOf Tryz.prog 9 (str n).cells = some (str n) := by simp only [go_sem]
set_option maxHeartbeats 4000000 in
theorem wrong_c (f : Bd) (K : SV → St → Prop) (st : St) (h : K (.sc (.bool (!bodyB f))) st) : ACalls Tryz.prog 55 [bdSV f] K st := by
  unfold bodyB at h
  cases k1 : inB f.kept 0 59 with
  | false =>
    rw [k1] at h
    refine acalls_go_pure [] Tryz.func55 rfl Tryz.results55 Tryz.ntmps55 ?_
    simp only [go_sem, bdSV]
    refine in_c _ _ _ _ _ ?_
    simp only [go_sem, k1]
    exact ⟨⟨[], by simp⟩, .sc _, h⟩
  | true =>
  rw [k1] at h
  cases k2 : inB f.locals 0 60 with
  | false =>
    rw [k2] at h
    refine acalls_go_pure [] Tryz.func55 rfl Tryz.results55 Tryz.ntmps55 ?_
    simp only [go_sem, bdSV]
    refine in_c _ _ _ _ _ ?_
    simp only [go_sem, k1]
    refine in_c _ _ _ _ _ ?_
    simp only [go_sem, k1, k2]
    exact ⟨⟨[], by simp⟩, .sc _, h⟩
  | true =>
  rw [k2] at h
  cases k3 : inB f.stack 1 60 with
  | false =>
    rw [k3] at h
    refine acalls_go_pure [] Tryz.func55 rfl Tryz.results55 Tryz.ntmps55 ?_
    simp only [go_sem, bdSV]
    refine in_c _ _ _ _ _ ?_
    simp only [go_sem, k1]
    refine in_c _ _ _ _ _ ?_
    simp only [go_sem, k1, k2]
    refine in_c _ _ _ _ _ ?_
    simp only [go_sem, k1, k2, k3]
    exact ⟨⟨[], by simp⟩, .sc _, h⟩
  | true =>
  rw [k3] at h
  have hlen : List.length (f.code.map inSV) = f.code.length := List.length_map ..
  cases k4 : inB f.code.length 1 400 with
  | false =>
    rw [k4] at h
    refine acalls_go_pure [] Tryz.func55 rfl Tryz.results55 Tryz.ntmps55 ?_
    simp only [go_sem, bdSV, insSV, hlen]
    refine in_c _ _ _ _ _ ?_
    simp only [go_sem, k1]
    refine in_c _ _ _ _ _ ?_
    simp only [go_sem, k1, k2]
    refine in_c _ _ _ _ _ ?_
    simp only [go_sem, k1, k2, k3, hlen]
    refine in_c _ _ _ _ _ ?_
    simp only [go_sem, k1, k2, k3, k4]
    exact ⟨⟨[], by simp⟩, .sc _, h⟩
  | true =>
  rw [k4] at h
  have hle := (inB_le k4).2
  have ha := any_not_all instrB f.code
  refine acalls_go_pure [] Tryz.func55 rfl Tryz.results55 Tryz.ntmps55 ?_
  simp only [go_sem, bdSV, insSV, hlen]
  refine in_c _ _ _ _ _ ?_
  simp only [go_sem, k1]
  refine in_c _ _ _ _ _ ?_
  simp only [go_sem, k1, k2]
  refine in_c _ _ _ _ _ ?_
  simp only [go_sem, k1, k2, k3, hlen]
  refine in_c _ _ _ _ _ ?_
  simp only [go_sem, k1, k2, k3, k4]
  refine containsF10_c inSV (fun i => !instrB i) _ f.code 3 (fun _ => rfl) 73 [] (by kernel_rfl) Tryz.cell_in (by omega) _ (fun i _ K hk => odd_c i K _ hk) _ ?_
  simp only [go_sem, k1, k2, k3, k4, ha]
  exact ⟨⟨[], by simp⟩, .sc _, h⟩
theorem int_bad_c (n : Int) (K : SV → St → Prop) (st : St) (h : K (.sc (.bool (!inB n (-4611686018427387904) 4611686018427387903))) st) : ACalls Tryz.prog 57 [i64 n] K st := by
  refine acalls_go_pure [] Tryz.func57 rfl Tryz.results57 Tryz.ntmps57 ?_
  simp only [go_sem]
  refine in_c _ _ _ _ _ ?_
  simp only [go_sem]
  exact ⟨⟨[], by simp⟩, .sc _, h⟩
theorem text_bad_c (t : ByteArray) (K : SV → St → Prop) (st : St) (h : K (.sc (.bool (!decide (t.size ≤ 60)))) st) : ACalls Tryz.prog 59 [str t] K st := by
  have e : (!decide (t.size ≤ 60)) = decide ((60 : Int) < (t.size : Int)) := by by_cases h : t.size ≤ 60 <;> simp [h] <;> omega
  rw [e] at h
  refine acalls_go_pure [] Tryz.func59 rfl Tryz.results59 Tryz.ntmps59 ?_
  simp only [go_sem]
  exact ⟨⟨[], by simp⟩, .sc _, h⟩
end Go.Proofs
