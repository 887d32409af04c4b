/- The harness: Tl2Words. -/
import Derived.Test.YteclbnjpijakbaaW23
import Derived.Test.YteclbnjpijakbaaM6
import Derived.Test.YteclbnjpijakbaaH1
set_option linter.unusedSimpArgs false
set_option linter.unusedVariables false
set_option maxRecDepth 8000
namespace Go.Proofs
open Go Go.AL

theorem selfless_c {st : St} (m : AL.Mode) {l : List Int} (hl : l.length ≤ 1000000) (K : SV → St → Prop) (h : K (.slice (.own st.length 0) 1 (l.map i64)) (st ++ [.tok 0])) : ACalls Try.prog 31 [.slice m 1 (l.map i64)] K st := by
  refine acalls_go (M := []) Try.func31 rfl Try.results31 Try.ntmps31 ?_
  have happ := app_i64s hl
  simp only [go_sem, reduceCtorEq, Nat.reduceAdd, Nat.reduceMul, Nat.reduceLeDiff, Nat.reduceLT, Int.reduceLE, Int.reduceLT, Int.reduceEq, Nat.reduceBEq, Nat.reduceEqDiff]
  first
    | exact ⟨happ, h⟩
    | exact ⟨.inl trivial, happ, h⟩

/-- Other words. -/
def othW (n : Nat) : List Int := (List.range n).map fun i : Nat => 1000 + (i : Int)
theorem othW_len (n : Nat) : (othW n).length = n := by simp [othW]
theorem othW_succ (n : Nat) : othW (n + 1) = othW n ++ [1000 + (n : Int)] := by simp [othW, List.range_succ]
theorem othW_get {n k : Nat} (h : k < n) : (othW n).getD k 0 = 1000 + (k : Int) := by simp [othW, List.getD_eq_getElem?_getD, h]

theorem words_val {E : EP} {n k : Nat} (h : wordsF E = othW n) (hk : k < E.vars.length) : (E.vars.getD k default).val = 1000 + (k : Int) := by
  have hn : k < n := by
    have := congrArg List.length h
    rw [othW_len] at this
    unfold wordsF at this
    rw [List.length_append, List.length_map] at this
    omega
  have h1 := othW_get hn
  rw [← h] at h1
  unfold wordsF at h1
  rw [List.getD_eq_getElem?_getD, List.getElem?_append_left (by simpa using hk), List.getElem?_map] at h1
  rw [← h1, List.getD_eq_getElem?_getD, List.getElem?_eq_getElem hk]
  rfl

theorem use_of2 {Z G : Prop} (hz : Z) (h : Z → G) : G := h hz

set_option maxHeartbeats 8000000 in
theorem words_law_c (l : List Dd) (hl : l.length ≤ 9223372036854775807) (K : SV → St → Prop) (st : St) (h : ∀ s, K (.sc (.bool true)) s) : ACalls Try.prog 7 [.slice .imm 4 (l.map ddSV)] K st := by
  refine acalls_go (M := []) Try.func7 rfl Try.results7 Try.ntmps7 ?_
  have hb := @hbegin_c st
  simp -implicitDefEqProofs only [go_sem, reduceCtorEq, Nat.reduceAdd, Nat.reduceMul, Nat.reduceLeDiff, Nat.reduceLT, Int.reduceLE, Int.reduceLT, Int.reduceEq, Nat.reduceBEq, Nat.reduceEqDiff]
  refine hb _ fun s0 E0 R0 hB0 a0 r0 => ?_
  have p0 : PlI 4 E0.abs R0.abs := by rw [a0, r0]; exact pl_makes 4
  simp -implicitDefEqProofs only [go_sem, reduceCtorEq, Nat.reduceAdd, Nat.reduceMul, Nat.reduceLeDiff, Nat.reduceLT, Int.reduceLE, Int.reduceLT, Int.reduceEq, Nat.reduceBEq, Nat.reduceEqDiff]
  refine AWp.mono (Q := fun e env s2 => e = .exit 0 ∧ ∃ (E : EG) (R : RG), Both s2 E R ∧ E.id = E0.id ∧ R.id = R0.id ∧ PlI 44 E.abs R.abs ∧ ∃ x1 x2 x3 x4 x5 x6 x7 x8 x9,
    env = [.slice .imm 4 (l.map ddSV), .any, .any, .ptr E0.id 0, .ptr R0.id 0, x9, .any, .any, .any, .any, .any, .any, .any, .any, .any, .any, .any, .any, .any, .any, x1, x2, x3, x4, x5, x6, x7, x8, .any, .any, .any, .any, .any, .any, .any, .any, .any, .any, .any, .any, .any, .any, .any, .any, .any, .any, .any, .any, .any, .any, .any, .any, .any, .any, .any, .any, .any, .any, .any, .any, .any, .any, .any, .any, .any, .any, .any, .any, .any, .any, .any, .any, .any, .any, .any, .any, .any, .any, .any, .any, .any, .any, .any, .any, .any, .any, .any, .any, .any, .any, .any, .any, .any, .any, .any, .any, .any, .any, .any, .any, .any, .any, .any, .any]) ?_ ?_
  · refine awp_rounds [] (fun m e s => ∃ (k : Nat) (E : EG) (R : RG), k + m = 40 ∧ Both s E R ∧ E.id = E0.id ∧ R.id = R0.id ∧ PlI (4 + k) E.abs R.abs ∧
      e = [.slice .imm 4 (l.map ddSV), .any, .any, .ptr E0.id 0, .ptr R0.id 0, i64 k, .any, .any, .any, .any, .any, .any, .any, .any, .any, .any, .any, .any, .any, .any, .any, .any, .any, .any, .any, .any, .any, .any, .any, .any, .any, .any, .any, .any, .any, .any, .any, .any, .any, .any, .any, .any, .any, .any, .any, .any, .any, .any, .any, .any, .any, .any, .any, .any, .any, .any, .any, .any, .any, .any, .any, .any, .any, .any, .any, .any, .any, .any, .any, .any, .any, .any, .any, .any, .any, .any, .any, .any, .any, .any, .any, .any, .any, .any, .any, .any, .any, .any, .any, .any, .any, .any, .any, .any, .any, .any, .any, .any, .any, .any, .any, .any, .any, .any]) (n := 40) ?_ ⟨0, E0, R0, by omega, hB0, rfl, rfl, p0, rfl⟩ ?_
    · repeat (first | exact leEnv_nil | refine leEnv_any _ ?_ | refine leEnv_same _ ?_ | refine leEnv_norm _ ?_)
    rintro m e s ⟨k, E, R, hkm, hB, e1, r1, hp, rfl⟩
    by_cases c : k < l.length ∧ k < 40
    · have c1 : (k : Int) < (l.length : Int) := by omega
      have c2 : (k : Int) < 40 := by omega
      have c0 : (0 : Int) ≤ (k : Int) := by omega
      have hw := wrapS k (by omega)
      obtain ⟨d, hd⟩ : ∃ d, d = l.getD k default := ⟨_, rfl⟩
      have hgd := dd_getD' c.1
      rw [← hd] at hgd
      have hgd' : (l.map ddSV).getD k .any = .agg [i64 d.kind, i64 d.t, i64 d.n, i64 d.v] := hgd
      have hdd := pl_does hp d
      have hdc := does_c hB (hp.fine.fine hB.eng (by omega)) (hp.fined.fine (by omega)) d (hp.fined.done d.t)
      rw [e1, r1] at hdc
      simp -implicitDefEqProofs only [go_sem, reduceCtorEq, Nat.reduceAdd, Nat.reduceMul, Nat.reduceLeDiff, Nat.reduceLT, Int.reduceLE, Int.reduceLT, Int.reduceEq, Nat.reduceBEq, Nat.reduceEqDiff, c1, c2, c0, hgd', hw]
      refine hdc _ fun s2 E2 R2 q1 q2 q3 q4 q5 q6 q7 q8 => ?_
      have p2 : PlI (4 + (k + 1)) E2.abs R2.abs := by rw [q4, q5]; exact hdd.2
      simp -implicitDefEqProofs only [go_sem, reduceCtorEq, Nat.reduceAdd, Nat.reduceMul, Nat.reduceLeDiff, Nat.reduceLT, Int.reduceLE, Int.reduceLT, Int.reduceEq, Nat.reduceBEq, Nat.reduceEqDiff, c1, c2, c0, hgd', hw]
      refine ⟨m - 1, _, by omega, ?_, k + 1, E2, R2, by omega, q1, q2, q3, p2, rfl⟩
      repeat (first | exact leEnv_nil | refine leEnv_any _ ?_ | refine leEnv_same _ ?_ | refine leEnv_norm _ ?_)
    · have hp44 := hp.mono (show 4 + k ≤ 44 by omega)
      by_cases c1 : (k : Int) < (l.length : Int)
      · have c2 : ¬ (k : Int) < 40 := fun q => c ⟨by omega, by omega⟩
        simp -implicitDefEqProofs only [go_sem, reduceCtorEq, Nat.reduceAdd, Nat.reduceMul, Nat.reduceLeDiff, Nat.reduceLT, Int.reduceLE, Int.reduceLT, Int.reduceEq, Nat.reduceBEq, Nat.reduceEqDiff, c1, c2]
        exact ⟨E, R, hB, e1, r1, hp44, _, _, _, _, _, _, _, _, _, rfl⟩
      · simp -implicitDefEqProofs only [go_sem, reduceCtorEq, Nat.reduceAdd, Nat.reduceMul, Nat.reduceLeDiff, Nat.reduceLT, Int.reduceLE, Int.reduceLT, Int.reduceEq, Nat.reduceBEq, Nat.reduceEqDiff, c1]
        exact ⟨E, R, hB, e1, r1, hp44, _, _, _, _, _, _, _, _, _, rfl⟩
  rintro e env s1 ⟨rfl, E, R, hB, e1, r1, hp, x1, x2, x3, x4, x5, x6, x7, x8, x9, rfl⟩
  have hFe := hp.fine.fine hB.eng (by omega)
  have hFr := hp.fined.fine (by omega)
  have hwd := sim_words hp.sim hp.fined
  have hwl : (wordsF E.abs).length ≤ 400000 := by
    rw [hwd]; exact words_len hFr (by show (R.xs.map _).length = 8; simpa using hB.ref.len) hB.ref.many (by omega)
  have hvr : E.vars = R.vars := hp.sim.vars
  have hmany := hB.ref.many
  obtain ⟨W0, hW0⟩ : ∃ W0, W0 = wordsF E.abs := ⟨_, rfl⟩
  have hw1 := ewords_c hB.eng hFe hwl
  rw [e1, ← hW0] at hw1
  rw [← hW0] at hwl
  simp -implicitDefEqProofs only [go_sem, reduceCtorEq, Nat.reduceAdd, Nat.reduceMul, Nat.reduceLeDiff, Nat.reduceLT, Int.reduceLE, Int.reduceLT, Int.reduceEq, Nat.reduceBEq, Nat.reduceEqDiff]
  refine hw1 _ ?_
  simp -implicitDefEqProofs only [go_sem, reduceCtorEq, Nat.reduceAdd, Nat.reduceMul, Nat.reduceLeDiff, Nat.reduceLT, Int.reduceLE, Int.reduceLT, Int.reduceEq, Nat.reduceBEq, Nat.reduceEqDiff]
  refine awp_own 7 1 0 rfl ?_
  simp only [go_sem]
  refine AWp.mono (Q := fun e env s2 => e = .exit 2 ∧ ∃ ver x1 x2 x3 x4 x5, s2 = s1 ++ [.tok ver] ∧ env = [.slice .imm 4 (l.map ddSV), .any, .any, .ptr E0.id 0, .ptr R0.id 0, .any, .slice .imm 1 (W0.map i64), .slice (.own s1.length ver) 1 ((othW W0.length).map i64), x5, .any, .any, .any, .any, .any, .any, .any, .any, .any, .any, .any, .any, .any, .any, .any, .any, .any, .any, .any, .any, .any, .any, .any, .any, .any, .any, .any, .any, .any, .any, x1, x2, x3, x4, .any, .any, .any, .any, .any, .any, .any, .any, .any, .any, .any, .any, .any, .any, .any, .any, .any, .any, .any, .any, .any, .any, .any, .any, .any, .any, .any, .any, .any, .any, .any, .any, .any, .any, .any, .any, .any, .any, .any, .any, .any, .any, .any, .any, .any, .any, .any, .any, .any, .any, .any, .any, .any, .any, .any, .any, .any, .any, .any, .any, .any]) ?_ ?_
  · refine awp_rounds [] (fun m e s => ∃ (k ver : Nat), k + m = W0.length ∧ s = s1 ++ [.tok ver] ∧
      e = [.slice .imm 4 (l.map ddSV), .any, .any, .ptr E0.id 0, .ptr R0.id 0, .any, .slice .imm 1 (W0.map i64), .slice (.own s1.length ver) 1 ((othW k).map i64), i64 k, .any, .any, .any, .any, .any, .any, .any, .any, .any, .any, .any, .any, .any, .any, .any, .any, .any, .any, .any, .any, .any, .any, .any, .any, .any, .any, .any, .any, .any, .any, .any, .any, .any, .any, .any, .any, .any, .any, .any, .any, .any, .any, .any, .any, .any, .any, .any, .any, .any, .any, .any, .any, .any, .any, .any, .any, .any, .any, .any, .any, .any, .any, .any, .any, .any, .any, .any, .any, .any, .any, .any, .any, .any, .any, .any, .any, .any, .any, .any, .any, .any, .any, .any, .any, .any, .any, .any, .any, .any, .any, .any, .any, .any, .any, .any]) (n := W0.length) ?_ ⟨0, 0, by omega, rfl, rfl⟩ ?_
    · repeat (first | exact leEnv_nil | refine leEnv_any _ ?_ | refine leEnv_same _ ?_ | refine leEnv_norm _ ?_)
    rintro m e s ⟨k, ver, hkm, rfl, rfl⟩
    by_cases hlt : k < W0.length
    · have c1 : (k : Int) < (W0.length : Int) := by omega
      have hw := wrapS k (by omega)
      have hw2 : IntKind.i64.wrap (1000 + (k : Int)) = 1000 + (k : Int) := by rw [IntWalk.i64_in _ (by omega)]
      have happ := app_i64s (n := k + 1) (by omega)
      have ht : (othW (k + 1)).map i64 = (othW k).map i64 ++ [i64 (1000 + (k : Int))] := by rw [othW_succ, List.map_append]; rfl
      simp -implicitDefEqProofs only [go_sem, reduceCtorEq, Nat.reduceAdd, Nat.reduceMul, Nat.reduceLeDiff, Nat.reduceLT, Int.reduceLE, Int.reduceLT, Int.reduceEq, Nat.reduceBEq, Nat.reduceEqDiff, c1, hw, hw2]
      refine ⟨by rw [othW_len]; exact happ, m - 1, _, by omega, ?_, k + 1, ver + 1, by omega, rfl, rfl⟩
      rw [ht]
      repeat (first | exact leEnv_nil | refine leEnv_any _ ?_ | refine leEnv_same _ ?_ | refine leEnv_norm _ ?_)
    · obtain rfl : k = W0.length := by omega
      simp -implicitDefEqProofs only [go_sem, reduceCtorEq, Nat.reduceAdd, Nat.reduceMul, Nat.reduceLeDiff, Nat.reduceLT, Int.reduceLE, Int.reduceLT, Int.reduceEq, Nat.reduceBEq, Nat.reduceEqDiff, Int.lt_irrefl]
      exact ⟨_, _, _, _, _, _, rfl, rfl⟩
  rintro e env s2 ⟨rfl, ver, y1, y2, y3, y4, y5, rfl, rfl⟩
  obtain ⟨O, hO⟩ : ∃ O, O = othW W0.length := ⟨_, rfl⟩
  have hOl : O.length = W0.length := by rw [hO, othW_len]
  rw [← hO]
  have hself := @selfless_c (s1 ++ [.tok ver]) (.own s1.length ver) O (by omega)
  have happ5 := app_i64s (n := O.length + 1) (by omega)
  simp -implicitDefEqProofs only [go_sem, reduceCtorEq, Nat.reduceAdd, Nat.reduceMul, Nat.reduceLeDiff, Nat.reduceLT, Int.reduceLE, Int.reduceLT, Int.reduceEq, Nat.reduceBEq, Nat.reduceEqDiff]
  refine hself _ ?_
  simp -implicitDefEqProofs only [go_sem, reduceCtorEq, Nat.reduceAdd, Nat.reduceMul, Nat.reduceLeDiff, Nat.reduceLT, Int.reduceLE, Int.reduceLT, Int.reduceEq, Nat.reduceBEq, Nat.reduceEqDiff]
  have hB2 := hB.app [.tok ver, .tok 1]
  have hset5 : ∀ K : SV → St → Prop, K (.tuple []) (s1 ++ [.tok ver, .tok 1]) → ACalls Try.prog 30 [.ptr E0.id 0, .slice (.own (s1.length + 1) 1) 1 (O.map i64 ++ [i64 5])] K (s1 ++ [.tok ver, .tok 1]) := fun K hk => by
    have := set_c hB2.eng hFe (.own (s1.length + 1) 1) (ws := O ++ [5]) (by simp; omega) (by rw [← hW0]; exact hwl) K (fun _ => hk) (fun e => by rw [← hW0] at e; simp at e; omega)
    rw [List.map_append, e1] at this
    exact this
  have hB3 : Both (s1 ++ [.tok ver, .tok 1]) E R := hB2
  refine ⟨happ5, hset5 _ ?_⟩
  obtain ⟨s3, hs3⟩ : ∃ s3, s3 = s1 ++ [Ob.tok ver, .tok 1] := ⟨_, rfl⟩
  rw [← hs3] at hB2 ⊢
  clear hs3 hset5 hself hB3
  have hw1 := ewords_c hB2.eng hFe (by rw [← hW0]; exact hwl)
  rw [e1, ← hW0] at hw1
  have hsm1 := @same_c s3 .imm .imm W0 W0 (by omega) (by omega)
  simp only [decide_true] at hsm1
  -- what Set does
  have hset : ∀ K : SV → St → Prop, (∀ s E', EngAt s E' → Fr s3 E s E' → Fine E' → wordsF E'.abs = O → E'.vars.length = E.vars.length → K (.tuple []) s) → ACalls Try.prog 30 [.ptr E0.id 0, .slice (.own s1.length ver) 1 (O.map i64)] K s3 := fun K hk => by
    have := set_c hB2.eng hFe (.own s1.length ver) (ws := O) (by omega) (by rw [← hW0]; exact hwl) K (fun e => absurd (by rw [← hW0]; exact hOl) e) (fun _ => hk)
    rw [e1] at this
    exact this
  have hsetd : ∀ (m : AL.Mode) (K : SV → St → Prop), O ≠ [] → K (.tuple []) s3 → ACalls Try.prog 30 [.ptr E0.id 0, .slice m 1 ((O.drop 1).map i64)] K s3 := fun m K hne hk => by
    have hp1 : 0 < O.length := List.length_pos_iff.2 hne
    have := set_c hB2.eng hFe m (ws := O.drop 1) (by rw [List.length_drop]; omega) (by rw [← hW0]; exact hwl) K (fun _ => hk) (fun e => by rw [← hW0, List.length_drop] at e; omega)
    rw [e1] at this
    exact this
  by_cases hz : O = []
  · have c0 : ((O.length : Nat) : Int) = 0 := by rw [hz]; rfl
    simp -implicitDefEqProofs only [go_sem, reduceCtorEq, Nat.reduceAdd, Nat.reduceMul, Nat.reduceLeDiff, Nat.reduceLT, Int.reduceLE, Int.reduceLT, Int.reduceEq, Nat.reduceBEq, Nat.reduceEqDiff, c0]
    refine hw1 _ ?_
    simp -implicitDefEqProofs only [go_sem, reduceCtorEq, Nat.reduceAdd, Nat.reduceMul, Nat.reduceLeDiff, Nat.reduceLT, Int.reduceLE, Int.reduceLT, Int.reduceEq, Nat.reduceBEq, Nat.reduceEqDiff]
    refine hsm1 _ ?_
    simp -implicitDefEqProofs only [go_sem, reduceCtorEq, Nat.reduceAdd, Nat.reduceMul, Nat.reduceLeDiff, Nat.reduceLT, Int.reduceLE, Int.reduceLT, Int.reduceEq, Nat.reduceBEq, Nat.reduceEqDiff]
    refine hset _ fun s4 E4 k1 k2 k3 k4 k5 => ?_
    have hB4 := hB2.engT k1 k2
    have e4 := k2.id.trans e1
    have hw4 := ewords_c k1 k3 (by rw [k4]; omega)
    rw [e4, k4] at hw4
    have hsm2 := @same_c s4 .imm (.own s1.length ver) O O (by omega) (by omega)
    simp only [decide_true] at hsm2
    simp -implicitDefEqProofs only [go_sem, reduceCtorEq, Nat.reduceAdd, Nat.reduceMul, Nat.reduceLeDiff, Nat.reduceLT, Int.reduceLE, Int.reduceLT, Int.reduceEq, Nat.reduceBEq, Nat.reduceEqDiff]
    refine hw4 _ ?_
    simp -implicitDefEqProofs only [go_sem, reduceCtorEq, Nat.reduceAdd, Nat.reduceMul, Nat.reduceLeDiff, Nat.reduceLT, Int.reduceLE, Int.reduceLT, Int.reduceEq, Nat.reduceBEq, Nat.reduceEqDiff]
    refine hsm2 _ ?_
    have f := cells_facts hB4.ref.cells
    have v := arr_facts hB4.ref.vars
    rw [r1] at f
    simp -implicitDefEqProofs only [go_sem, reduceCtorEq, Nat.reduceAdd, Nat.reduceMul, Nat.reduceLeDiff, Nat.reduceLT, Int.reduceLE, Int.reduceLT, Int.reduceEq, Nat.reduceBEq, Nat.reduceEqDiff]
    refine awp_rounds [] (fun m e s' => ∃ (k : Nat), k + m = R.vars.length ∧ e = [.any, .any, .any, .ptr E0.id 0, .ptr R0.id 0, .any, .any, .any, .any, .sc (.bool true), .sc (.bool true), i64 k, .any, .any, .any, .any, .any, .any, .any, .any, .any, .any, .any, .any, .any, .any, .any, .any, .any, .any, .any, .any, .any, .any, .any, .any, .any, .any, .any, .any, .any, .any, .any, .any, .any, .any, .any, .any, .any, .any, .any, .any, .any, .any, .any, .any, .any, .any, .any, .any, .any, .any, .any, .any, .any, .any, .any, .any, .any, .any, .any, .any, .any, .any, .any, .any, .any, .any, .any, .any, .any, .any, .any, .any, .any, .any, .any, .any, .any, .any, .any, .any, .any, .any, .any, .any, .any, .any, .any, .any, .any, .any, .any, .any] ∧ s' = s4) (n := R.vars.length) ?_ ⟨0, by omega, rfl, rfl⟩ ?_
    · repeat (first | exact leEnv_nil | refine leEnv_any _ ?_ | refine leEnv_same _ ?_ | refine leEnv_norm _ ?_)
    rintro m e s' ⟨k, hkm, rfl, rfl⟩
    by_cases hlt : k < R.vars.length
    · have c1 : (k : Int) < (R.vars.length : Int) := by omega
      have hw := wrapS k (by omega)
      have hw2 : IntKind.i64.wrap (1000 + (k : Int)) = 1000 + (k : Int) := by rw [IntWalk.i64_in _ (by omega)]
      have hk4 : k < E4.vars.length := by rw [k5, hvr]; exact hlt
      have his : E4.is (k : Int) = true := by unfold EG.is; simp; omega
      have hval := value_c k1 (k : Int)
      have hvv : (E4.vars.getD k default).val = 1000 + (k : Int) := words_val (E := E4.abs) (n := W0.length) (by rw [k4, hO]) hk4
      rw [his, e4] at hval
      simp only [if_true, Int.toNat_natCast, hvv] at hval
      simp -implicitDefEqProofs only [go_sem, reduceCtorEq, Nat.reduceAdd, Nat.reduceMul, Nat.reduceLeDiff, Nat.reduceLT, Int.reduceLE, Int.reduceLT, Int.reduceEq, Nat.reduceBEq, Nat.reduceEqDiff, f.1, f.2.1, f.2.2, RG.cells, v.1, v.2.1, v.2.2.1, v.2.2.2, c1, hw, hw2]
      refine hval _ ?_
      simp -implicitDefEqProofs only [go_sem, reduceCtorEq, Nat.reduceAdd, Nat.reduceMul, Nat.reduceLeDiff, Nat.reduceLT, Int.reduceLE, Int.reduceLT, Int.reduceEq, Nat.reduceBEq, Nat.reduceEqDiff, f.1, f.2.1, f.2.2, RG.cells, v.1, v.2.1, v.2.2.1, v.2.2.2, c1, hw, hw2, bne_self_eq_false]
      refine ⟨m - 1, _, by omega, ?_, k + 1, by omega, rfl⟩
      repeat (first | exact leEnv_nil | refine leEnv_any _ ?_ | refine leEnv_same _ ?_ | refine leEnv_norm _ ?_)
    · obtain rfl : k = R.vars.length := by omega
      have hlv := @lives_c s'
      simp -implicitDefEqProofs only [go_sem, reduceCtorEq, Nat.reduceAdd, Nat.reduceMul, Nat.reduceLeDiff, Nat.reduceLT, Int.reduceLE, Int.reduceLT, Int.reduceEq, Nat.reduceBEq, Nat.reduceEqDiff, f.1, f.2.1, f.2.2, RG.cells, v.1, v.2.1, v.2.2.1, v.2.2.2, Int.lt_irrefl]
      refine hlv _ fun s5 _ _ => ?_
      simp -implicitDefEqProofs only [go_sem, reduceCtorEq, Nat.reduceAdd, Nat.reduceMul, Nat.reduceLeDiff, Nat.reduceLT, Int.reduceLE, Int.reduceLT, Int.reduceEq, Nat.reduceBEq, Nat.reduceEqDiff]
      exact h s5
  · have hp1 : 0 < O.length := List.length_pos_iff.2 hz
    have c0 : (0 : Int) < (O.length : Int) := by omega
    have c1 : (1 : Int) ≤ (O.length : Int) := by omega
    have hsd := fun K => hsetd .imm K hz
    simp only [List.map_drop] at hsd
    simp -implicitDefEqProofs only [go_sem, reduceCtorEq, Nat.reduceAdd, Nat.reduceMul, Nat.reduceLeDiff, Nat.reduceLT, Int.reduceLE, Int.reduceLT, Int.reduceEq, Nat.reduceBEq, Nat.reduceEqDiff, c0, c1]
    refine hsd _ ?_
    simp -implicitDefEqProofs only [go_sem, reduceCtorEq, Nat.reduceAdd, Nat.reduceMul, Nat.reduceLeDiff, Nat.reduceLT, Int.reduceLE, Int.reduceLT, Int.reduceEq, Nat.reduceBEq, Nat.reduceEqDiff]
    refine hw1 _ ?_
    simp -implicitDefEqProofs only [go_sem, reduceCtorEq, Nat.reduceAdd, Nat.reduceMul, Nat.reduceLeDiff, Nat.reduceLT, Int.reduceLE, Int.reduceLT, Int.reduceEq, Nat.reduceBEq, Nat.reduceEqDiff]
    refine hsm1 _ ?_
    simp -implicitDefEqProofs only [go_sem, reduceCtorEq, Nat.reduceAdd, Nat.reduceMul, Nat.reduceLeDiff, Nat.reduceLT, Int.reduceLE, Int.reduceLT, Int.reduceEq, Nat.reduceBEq, Nat.reduceEqDiff]
    refine hset _ fun s4 E4 k1 k2 k3 k4 k5 => ?_
    have hB4 := hB2.engT k1 k2
    have e4 := k2.id.trans e1
    have hw4 := ewords_c k1 k3 (by rw [k4]; omega)
    rw [e4, k4] at hw4
    have hsm2 := @same_c s4 .imm (.own s1.length ver) O O (by omega) (by omega)
    simp only [decide_true] at hsm2
    simp -implicitDefEqProofs only [go_sem, reduceCtorEq, Nat.reduceAdd, Nat.reduceMul, Nat.reduceLeDiff, Nat.reduceLT, Int.reduceLE, Int.reduceLT, Int.reduceEq, Nat.reduceBEq, Nat.reduceEqDiff]
    refine hw4 _ ?_
    simp -implicitDefEqProofs only [go_sem, reduceCtorEq, Nat.reduceAdd, Nat.reduceMul, Nat.reduceLeDiff, Nat.reduceLT, Int.reduceLE, Int.reduceLT, Int.reduceEq, Nat.reduceBEq, Nat.reduceEqDiff]
    refine hsm2 _ ?_
    have f := cells_facts hB4.ref.cells
    have v := arr_facts hB4.ref.vars
    rw [r1] at f
    simp -implicitDefEqProofs only [go_sem, reduceCtorEq, Nat.reduceAdd, Nat.reduceMul, Nat.reduceLeDiff, Nat.reduceLT, Int.reduceLE, Int.reduceLT, Int.reduceEq, Nat.reduceBEq, Nat.reduceEqDiff]
    refine awp_rounds [] (fun m e s' => ∃ (k : Nat), k + m = R.vars.length ∧ e = [.any, .any, .any, .ptr E0.id 0, .ptr R0.id 0, .any, .any, .any, .any, .sc (.bool true), .sc (.bool true), i64 k, .any, .any, .any, .any, .any, .any, .any, .any, .any, .any, .any, .any, .any, .any, .any, .any, .any, .any, .any, .any, .any, .any, .any, .any, .any, .any, .any, .any, .any, .any, .any, .any, .any, .any, .any, .any, .any, .any, .any, .any, .any, .any, .any, .any, .any, .any, .any, .any, .any, .any, .any, .any, .any, .any, .any, .any, .any, .any, .any, .any, .any, .any, .any, .any, .any, .any, .any, .any, .any, .any, .any, .any, .any, .any, .any, .any, .any, .any, .any, .any, .any, .any, .any, .any, .any, .any, .any, .any, .any, .any, .any, .any] ∧ s' = s4) (n := R.vars.length) ?_ ⟨0, by omega, rfl, rfl⟩ ?_
    · repeat (first | exact leEnv_nil | refine leEnv_any _ ?_ | refine leEnv_same _ ?_ | refine leEnv_norm _ ?_)
    rintro m e s' ⟨k, hkm, rfl, rfl⟩
    by_cases hlt : k < R.vars.length
    · have c1 : (k : Int) < (R.vars.length : Int) := by omega
      have hw := wrapS k (by omega)
      have hw2 : IntKind.i64.wrap (1000 + (k : Int)) = 1000 + (k : Int) := by rw [IntWalk.i64_in _ (by omega)]
      have hk4 : k < E4.vars.length := by rw [k5, hvr]; exact hlt
      have his : E4.is (k : Int) = true := by unfold EG.is; simp; omega
      have hval := value_c k1 (k : Int)
      have hvv : (E4.vars.getD k default).val = 1000 + (k : Int) := words_val (E := E4.abs) (n := W0.length) (by rw [k4, hO]) hk4
      rw [his, e4] at hval
      simp only [if_true, Int.toNat_natCast, hvv] at hval
      simp -implicitDefEqProofs only [go_sem, reduceCtorEq, Nat.reduceAdd, Nat.reduceMul, Nat.reduceLeDiff, Nat.reduceLT, Int.reduceLE, Int.reduceLT, Int.reduceEq, Nat.reduceBEq, Nat.reduceEqDiff, f.1, f.2.1, f.2.2, RG.cells, v.1, v.2.1, v.2.2.1, v.2.2.2, c1, hw, hw2]
      refine hval _ ?_
      simp -implicitDefEqProofs only [go_sem, reduceCtorEq, Nat.reduceAdd, Nat.reduceMul, Nat.reduceLeDiff, Nat.reduceLT, Int.reduceLE, Int.reduceLT, Int.reduceEq, Nat.reduceBEq, Nat.reduceEqDiff, f.1, f.2.1, f.2.2, RG.cells, v.1, v.2.1, v.2.2.1, v.2.2.2, c1, hw, hw2, bne_self_eq_false]
      refine ⟨m - 1, _, by omega, ?_, k + 1, by omega, rfl⟩
      repeat (first | exact leEnv_nil | refine leEnv_any _ ?_ | refine leEnv_same _ ?_ | refine leEnv_norm _ ?_)
    · obtain rfl : k = R.vars.length := by omega
      have hlv := @lives_c s'
      simp -implicitDefEqProofs only [go_sem, reduceCtorEq, Nat.reduceAdd, Nat.reduceMul, Nat.reduceLeDiff, Nat.reduceLT, Int.reduceLE, Int.reduceLT, Int.reduceEq, Nat.reduceBEq, Nat.reduceEqDiff, f.1, f.2.1, f.2.2, RG.cells, v.1, v.2.1, v.2.2.1, v.2.2.2, Int.lt_irrefl]
      refine hlv _ fun s5 _ _ => ?_
      simp -implicitDefEqProofs only [go_sem, reduceCtorEq, Nat.reduceAdd, Nat.reduceMul, Nat.reduceLeDiff, Nat.reduceLT, Int.reduceLE, Int.reduceLT, Int.reduceEq, Nat.reduceBEq, Nat.reduceEqDiff]
      exact h s5

end Go.Proofs
