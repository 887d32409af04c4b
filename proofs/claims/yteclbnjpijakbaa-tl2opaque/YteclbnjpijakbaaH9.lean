/- The harness: Tl2Opaque. -/
import Derived.Test.YteclbnjpijakbaaW25
import Derived.Test.YteclbnjpijakbaaH1
set_option linter.unusedSimpArgs false
set_option linter.unusedVariables false
set_option maxRecDepth 8000
namespace Go.Proofs
open Go Go.AL

/-- What the walk keeps. -/
structure OqI (k : Nat) (s : St) (E : EG) (R : RG) (S : List (List Int)) (seen : List SN) (sid sver : Nat) (L : List (Nat × Nat)) (qid qver : Nat) : Prop where
  both : Both s E R
  pl : PlI (4 + k) E.abs R.abs
  opq : OpqI E.abs S
  sn : SeenI E.abs S seen
  nseen : seen.length ≤ k
  st : StAt s sid sver L S
  tok : s[qid]? = some (.tok qver)
  ap : ∀ j, StHas sid L j ∨ j = qid → ¬ E.has j ∧ ¬ R.has j

theorem OqI.app {k : Nat} {s : St} {E : EG} {R : RG} {S : List (List Int)} {seen : List SN} {sid sver : Nat} {L : List (Nat × Nat)} {qid qver : Nat} (h : OqI k s E R S seen sid sver L qid qver) (l : St) : OqI k (s ++ l) E R S seen sid sver L qid qver :=
  ⟨h.both.app l, h.pl, h.opq, h.sn, h.nseen, h.st.app l, (List.getElem?_append_left (lt_of_get h.tok)).trans h.tok, h.ap⟩

theorem use_of3 {Z G : Prop} (hz : Z) (h : Z → G) : G := h hz

theorem want_drop2 {l : List Int} {n : Nat} (h : n < l.length) : (l.map i64).drop n = i64 (l.getD n 0) :: (l.map i64).drop (n + 1) := by
  rw [List.drop_eq_getElem_cons (by simpa using h)]; simp [List.getD_eq_getElem?_getD, h]

theorem app_rows {n : Nat} (h : n ≤ 1000000) : AppOk Try.prog 46 46 1 n := appOk_of Try.aelem46 Try.aelem46 Try.asize29 Try.azero29 rfl Try.abytes29 (by omega) h

set_option maxHeartbeats 8000000 in
theorem opaque_law_c (l : List Dd) (hl : l.length ≤ 9223372036854775807) (K : SV → St → Prop) (st : St) (h : ∀ s, K (.sc (.bool true)) s) : ACalls Try.prog 6 [.slice .imm 4 (l.map ddSV)] K st := by
  refine acalls_goA Try.func6 rfl Try.results6 Try.ntmps6 ?_
  have hb := @hbegin_c st
  refine awp_seq (awp_c (M := []) ?_)
  simp only [go_sem, reduceCtorEq, Nat.reduceAdd, Nat.reduceMul, Nat.reduceLeDiff, Nat.reduceLT, Int.reduceLE, Int.reduceLT, Int.reduceEq, Nat.reduceBEq, Nat.reduceEqDiff]
  refine awp_seq (AWp.mono (Q := fun e env s => e = .normal ∧ ∃ (E : EG) (R : RG), Both s E R ∧ E.abs = makesF 4 ∧ R.abs = makesR 4 ∧ LeEnv env [.slice .imm 4 (l.map ddSV), .any, .any, .ptr E.id 0, .ptr R.id 0, .any, .any, .any, .any, .any, .any, .any, .any, .any, .any, .any, .any, .any, .any, .any, .any, .any, .any, .any, .any, .any, .any, .any, .any, .any, .any, .any, .any, .any, .any, .any, .any, .any, .any, .any, .any, .any, .any, .any, .any, .any, .any, .any, .any, .any, .any, .any, .any, .any, .any, .any, .any, .any, .any, .any, .any, .any, .any, .any, .any, .any, .any, .any, .any, .any, .any, .any, .any, .any, .any, .any, .any, .any, .any, .any, .any, .any, .any, .any, .any, .any, .any, .any, .any, .any, .any, .any, .any, .any, .any, .any, .any, .any, .any, .any, .any, .any, .any, .any, .any, .any, .any, .any, .any, .any, .any, .any, .any, .any, .any, .any, .any, .any, .any, .any, .any, .any, .any, .any, .any, .any, .any, .any, .any, .any, .any, .any, .any, .any, .any, .any, .any, .any, .any, .any, .any, .any, .any, .any, .any, .any, .any, .any, .any, .any, .any, .any, .any, .any, .any, .any, .any, .any, .any, .any, .any, .any, .any, .any, .any, .any, .any, .any, .any, .any, .any, .any, .any, .any, .any, .any, .any, .any, .any, .any, .any, .any, .any, .any, .any, .any, .any, .any, .any, .any, .any, .any, .any, .any, .any, .any, .any, .any, .any, .any, .any, .any, .any, .any, .any, .any, .any, .any, .any, .any, .any, .any, .any, .any, .any, .any, .any, .any, .any]) ?_ ?_)
  · refine awp_c (M := []) ?_
    simp only [go_sem, reduceCtorEq, Nat.reduceAdd, Nat.reduceMul, Nat.reduceLeDiff, Nat.reduceLT, Int.reduceLE, Int.reduceLT, Int.reduceEq, Nat.reduceBEq, Nat.reduceEqDiff]
    refine hb _ fun s0 E0 R0 hB0 a0 r0 => ?_
    simp only [go_sem, reduceCtorEq, Nat.reduceAdd, Nat.reduceMul, Nat.reduceLeDiff, Nat.reduceLT, Int.reduceLE, Int.reduceLT, Int.reduceEq, Nat.reduceBEq, Nat.reduceEqDiff]
    refine ⟨E0, R0, hB0, a0, r0, ?_⟩
    repeat (first | exact leEnv_nil | refine leEnv_any _ ?_ | refine leEnv_same _ ?_ | refine leEnv_norm _ ?_)
  rintro e env s0 ⟨rfl, E0, R0, hB0, a0, r0, hle⟩
  refine awp_weaken hle ?_
  clear hle hb
  refine awp_seq (awp_c (M := []) ?_)
  simp only [go_sem, reduceCtorEq, Nat.reduceAdd, Nat.reduceMul, Nat.reduceLeDiff, Nat.reduceLT, Int.reduceLE, Int.reduceLT, Int.reduceEq, Nat.reduceBEq, Nat.reduceEqDiff]
  refine awp_seq (AWp.mono (Q := fun e env s => e = .normal ∧ s = s0 ++ [Ob.arr 1 1 [i64 10, i64 11, i64 12, i64 13], Ob.arr 1 1 [.arr s0.length 1 4]] ∧ LeEnv env [.slice .imm 4 (l.map ddSV), .any, .any, .ptr E0.id 0, .ptr R0.id 0, .arr (s0.length + 1) 1 1, .any, .any, .any, .any, .any, .any, .any, .any, .any, .any, .any, .any, .any, .any, .any, .any, .any, .any, .any, .any, .any, .any, .any, .any, .any, .any, .any, .any, .any, .any, .any, .any, .any, .any, .any, .any, .any, .any, .any, .any, .any, .any, .any, .any, .any, .any, .any, .any, .any, .any, .any, .any, .any, .any, .any, .any, .any, .any, .any, .any, .any, .any, .any, .any, .any, .any, .any, .any, .any, .any, .any, .any, .any, .any, .any, .any, .any, .any, .any, .any, .any, .any, .any, .any, .any, .any, .any, .any, .any, .any, .any, .any, .any, .any, .any, .any, .any, .any, .any, .any, .any, .any, .any, .any, .any, .any, .any, .any, .any, .any, .any, .any, .any, .any, .any, .any, .any, .any, .any, .any, .any, .any, .any, .any, .any, .any, .any, .any, .any, .any, .any, .any, .any, .any, .any, .any, .any, .any, .any, .any, .any, .any, .any, .any, .any, .any, .any, .any, .any, .any, .any, .any, .any, .any, .any, .any, .any, .any, .any, .any, .any, .any, .any, .any, .any, .any, .any, .any, .any, .any, .any, .any, .any, .any, .any, .any, .any, .any, .any, .any, .any, .any, .any, .any, .any, .any, .any, .any, .any, .any, .any, .any, .any, .any, .any, .any, .any, .any, .any, .any, .any, .any, .any, .any, .any, .any, .any, .any, .any, .any, .any, .any, .any]) ?_ ?_)
  · refine awp_c (M := [1000025, 1000026]) ?_
    simp only [go_sem, reduceCtorEq, Nat.reduceAdd, Nat.reduceMul, Nat.reduceLeDiff, Nat.reduceLT, Int.reduceLE, Int.reduceLT, Int.reduceEq, Nat.reduceBEq, Nat.reduceEqDiff]
    refine ⟨rfl, ?_⟩
    repeat (first | exact leEnv_nil | refine leEnv_any _ ?_ | refine leEnv_same _ ?_ | refine leEnv_norm _ ?_)
  rintro e env s1 ⟨rfl, hs1, hle⟩
  refine awp_weaken hle ?_
  clear hle
  refine awp_seq (awp_c (M := []) ?_)
  simp only [go_sem, reduceCtorEq, Nat.reduceAdd, Nat.reduceMul, Nat.reduceLeDiff, Nat.reduceLT, Int.reduceLE, Int.reduceLT, Int.reduceEq, Nat.reduceBEq, Nat.reduceEqDiff]
  refine awp_seq (awp_seq (awp_c (M := []) ?_))
  simp only [go_sem, reduceCtorEq, Nat.reduceAdd, Nat.reduceMul, Nat.reduceLeDiff, Nat.reduceLT, Int.reduceLE, Int.reduceLT, Int.reduceEq, Nat.reduceBEq, Nat.reduceEqDiff]
  refine awp_own 6 3 0 rfl ?_
  refine AWp.mono (Q := fun e env s => e = .normal ∧ LeEnv env [.any, .any, .any, .any, .any, .any, .any, .any, .any, .any, .any, .any, .any, .any, .any, .any, .any, .any, .any, .any, .any, .any, .any, .any, .any, .any, .any, .any, .any, .any, .any, .any, .any, .any, .any, .any, .any, .any, .any, .any, .any, .any, .any, .any, .any, .any, .any, .any, .any, .any, .any, .any, .any, .any, .any, .any, .any, .any, .any, .any, .any, .any, .any, .any, .any, .any, .any, .any, .any, .any, .any, .any, .any, .any, .any, .any, .any, .any, .any, .any, .any, .any, .any, .any, .any, .any, .any, .any, .any, .any, .any, .any, .any, .any, .any, .any, .any, .any, .any, .any, .any, .any, .any, .any, .any, .any, .any, .any, .any, .any, .any, .any, .any, .any, .any, .any, .any, .any, .any, .any, .any, .any, .any, .any, .any, .any, .any, .any, .any, .any, .any, .any, .any, .any, .any, .any, .any, .any, .any, .any, .any, .any, .any, .any, .any, .any, .any, .any, .any, .any, .any, .any, .any, .any, .any, .any, .any, .any, .any, .any, .any, .any, .any, .any, .any, .any, .any, .any, .any, .any, .any, .any, .any, .any, .any, .any, .any, .any, .any, .any, .any, .any, .any, .any, .any, .any, .any, .any, .any, .any, .any, .any, .any, .any, .any, .any, .any, .any, .any, .any, .any, .any, .any, .any, .any, .any, .any, .any, .any, .any, .any, .any, .any, .any, .any, .any, .any, .any, .any]) ?_ ?_
  rotate_left
  · rintro e env s ⟨rfl, hle⟩
    have hlv := @lives_c s
    refine awp_weaken hle (awp_c (M := []) ?_)
    simp only [go_sem, reduceCtorEq, Nat.reduceAdd, Nat.reduceMul, Nat.reduceLeDiff, Nat.reduceLT, Int.reduceLE, Int.reduceLT, Int.reduceEq, Nat.reduceBEq, Nat.reduceEqDiff]
    refine hlv _ fun s2 _ _ => ?_
    simp only [go_sem, reduceCtorEq, Nat.reduceAdd, Nat.reduceMul, Nat.reduceLeDiff, Nat.reduceLT, Int.reduceLE, Int.reduceLT, Int.reduceEq, Nat.reduceBEq, Nat.reduceEqDiff]
    exact h s2
  have hOq : OqI 0 (s1 ++ [.tok 0]) E0 R0 [[10, 11, 12, 13]] [] (s0.length + 1) 1 [(s0.length, 1)] s1.length 0 := by
    have hlt : ∀ j, E0.has j ∨ R0.has j → j < s0.length := fun j hj => hj.elim hB0.eng.has_lt hB0.ref.has_lt
    have e0 : s1[s0.length]? = some (.arr 1 1 [i64 10, i64 11, i64 12, i64 13]) := by rw [hs1]; simp
    have e1 : s1[s0.length + 1]? = some (.arr 1 1 [.arr s0.length 1 4]) := by rw [hs1, List.getElem?_append_right (by omega)]; simp
    have hl1 : s1.length = s0.length + 2 := by rw [hs1]; simp
    refine ⟨(by rw [hs1]; exact hB0.app _ : Both s1 E0 R0).app _, by rw [a0, r0]; exact pl_makes 4, by rw [a0]; exact opq_init, ⟨fun s hs => by cases hs⟩, Nat.zero_le _, StAt.app ⟨rfl, e1, fun k p r h1 h2 => ?_, by simp, fun p hp => ?_⟩ _, by simp, fun j hj => ?_⟩
    · cases k with
      | zero => cases h1; cases h2; exact e0
      | succ k => cases h1
    · simp only [List.mem_singleton] at hp; subst hp; show s0.length ≠ _; omega
    · have : s0.length ≤ j := by
        rcases hj with (rfl | hj) | rfl
        · omega
        · simp only [List.map_cons, List.map_nil, List.mem_singleton] at hj; omega
        · omega
      exact ⟨fun q => by have := hlt j (.inl q); omega, fun q => by have := hlt j (.inr q); omega⟩
  simp only [List.set_cons_succ, List.set_cons_zero]
  refine awp_block ?_
  refine awp_roundsA (fun m e s => ∃ (k : Nat) (E : EG) (R : RG) (S : List (List Int)) (seen : List SN) (sid sver : Nat) (L : List (Nat × Nat)) (qid qver : Nat), k + m = 60 ∧ E.id = E0.id ∧ R.id = R0.id ∧ OqI k s E R S seen sid sver L qid qver ∧
    e = [.slice .imm 4 (l.map ddSV), .any, .any, .ptr E0.id 0, .ptr R0.id 0, .arr sid sver S.length, .slice (.own qid qver) 3 (seen.map snV), i64 k, .any, .any, .any, .any, .any, .any, .any, .any, .any, .any, .any, .any, .any, .any, .any, .any, .any, .any, .any, .any, .any, .any, .any, .any, .any, .any, .any, .any, .any, .any, .any, .any, .any, .any, .any, .any, .any, .any, .any, .any, .any, .any, .any, .any, .any, .any, .any, .any, .any, .any, .any, .any, .any, .any, .any, .any, .any, .any, .any, .any, .any, .any, .any, .any, .any, .any, .any, .any, .any, .any, .any, .any, .any, .any, .any, .any, .any, .any, .any, .any, .any, .any, .any, .any, .any, .any, .any, .any, .any, .any, .any, .any, .any, .any, .any, .any, .any, .any, .any, .any, .any, .any, .any, .any, .any, .any, .any, .any, .any, .any, .any, .any, .any, .any, .any, .any, .any, .any, .any, .any, .any, .any, .any, .any, .any, .any, .any, .any, .any, .any, .any, .any, .any, .any, .any, .any, .any, .any, .any, .any, .any, .any, .any, .any, .any, .any, .any, .any, .any, .any, .any, .any, .any, .any, .any, .any, .any, .any, .any, .any, .any, .any, .any, .any, .any, .any, .any, .any, .any, .any, .any, .any, .any, .any, .any, .any, .any, .any, .any, .any, .any, .any, .any, .any, .any, .any, .any, .any, .any, .any, .any, .any, .any, .any, .any, .any, .any, .any, .any, .any, .any, .any, .any, .any, .any, .any, .any, .any, .any, .any, .any]) (n := 60) ?_ ⟨0, E0, R0, _, _, _, _, _, _, _, by omega, rfl, rfl, hOq, rfl⟩ ?_
  · repeat (first | exact leEnv_nil | refine leEnv_any _ ?_ | refine leEnv_same _ ?_ | refine leEnv_norm _ ?_)
  clear hOq hs1 hB0 a0 r0
  rintro m e s ⟨k, E, R, S, seen, sid, sver, L, qid, qver, hkm, e1, r1, hO, rfl⟩
  by_cases c : k < l.length ∧ k < 60
  · have c1 : (k : Int) < (l.length : Int) := by omega
    have c2 : (k : Int) < 60 := by omega
    have c0 : (0 : Int) ≤ (k : Int) := by omega
    have hw := wrapS k (by omega)
    refine awp_seq (AWp.mono (Q := fun e env s' => e = .normal ∧ s' = s ∧ LeEnv env [.slice .imm 4 (l.map ddSV), .any, .any, .ptr E0.id 0, .ptr R0.id 0, .arr sid sver S.length, .slice (.own qid qver) 3 (seen.map snV), i64 k, .any, .any, .any, .any, .any, .any, .any, .any, .any, .any, .any, .any, .any, .any, .any, .any, .any, .any, .any, .any, .any, .any, .any, .any, .any, .any, .any, .any, .any, .any, .any, .any, .any, .any, .any, .any, .any, .any, .any, .any, .any, .any, .any, .any, .any, .any, .any, .any, .any, .any, .any, .any, .any, .any, .any, .any, .any, .any, .any, .any, .any, .any, .any, .any, .any, .any, .any, .any, .any, .any, .any, .any, .any, .any, .any, .any, .any, .any, .any, .any, .any, .any, .any, .any, .any, .any, .any, .any, .any, .any, .any, .any, .any, .any, .any, .any, .any, .any, .any, .any, .any, .any, .any, .any, .any, .any, .any, .any, .any, .any, .any, .any, .any, .any, .any, .any, .any, .any, .any, .any, .any, .any, .any, .any, .any, .any, .any, .any, .any, .any, .any, .any, .any, .any, .any, .any, .any, .any, .any, .any, .any, .any, .any, .any, .any, .any, .any, .any, .any, .any, .any, .any, .any, .any, .any, .any, .any, .any, .any, .any, .any, .any, .any, .any, .any, .any, .any, .any, .any, .any, .any, .any, .any, .any, .any, .any, .any, .any, .any, .any, .any, .any, .any, .any, .any, .any, .any, .any, .any, .any, .any, .any, .any, .any, .any, .any, .any, .any, .any, .any, .any, .any, .any, .any, .any, .any, .any, .any, .any, .any, .any]) ?_ ?_)
    · refine awp_c (M := []) ?_
      simp -implicitDefEqProofs (maxSteps := 1000000) only [go_sem, reduceCtorEq, Nat.reduceAdd, Nat.reduceMul, Nat.reduceLeDiff, Nat.reduceLT, Int.reduceLE, Int.reduceLT, Int.reduceEq, Nat.reduceBEq, Nat.reduceEqDiff, c1, c2]
      repeat (first | exact leEnv_nil | refine leEnv_any _ ?_ | refine leEnv_same _ ?_ | refine leEnv_norm _ ?_)
    rintro e env s' ⟨rfl, rfl, hle⟩
    refine awp_weaken hle ?_
    clear hle
    refine awp_seq (AWp.mono (Q := fun e env s2 => e = .normal ∧ ∃ (E : EG) (R : RG) (S : List (List Int)) (seen : List SN) (sid sver : Nat) (L : List (Nat × Nat)) (qid qver : Nat), E.id = E0.id ∧ R.id = R0.id ∧ OqI (k + 1) s2 E R S seen sid sver L qid qver ∧
      LeEnv env [.slice .imm 4 (l.map ddSV), .any, .any, .ptr E0.id 0, .ptr R0.id 0, .arr sid sver S.length, .slice (.own qid qver) 3 (seen.map snV), i64 k, .any, .any, .any, .any, .any, .any, .any, .any, .any, .any, .any, .any, .any, .any, .any, .any, .any, .any, .any, .any, .any, .any, .any, .any, .any, .any, .any, .any, .any, .any, .any, .any, .any, .any, .any, .any, .any, .any, .any, .any, .any, .any, .any, .any, .any, .any, .any, .any, .any, .any, .any, .any, .any, .any, .any, .any, .any, .any, .any, .any, .any, .any, .any, .any, .any, .any, .any, .any, .any, .any, .any, .any, .any, .any, .any, .any, .any, .any, .any, .any, .any, .any, .any, .any, .any, .any, .any, .any, .any, .any, .any, .any, .any, .any, .any, .any, .any, .any, .any, .any, .any, .any, .any, .any, .any, .any, .any, .any, .any, .any, .any, .any, .any, .any, .any, .any, .any, .any, .any, .any, .any, .any, .any, .any, .any, .any, .any, .any, .any, .any, .any, .any, .any, .any, .any, .any, .any, .any, .any, .any, .any, .any, .any, .any, .any, .any, .any, .any, .any, .any, .any, .any, .any, .any, .any, .any, .any, .any, .any, .any, .any, .any, .any, .any, .any, .any, .any, .any, .any, .any, .any, .any, .any, .any, .any, .any, .any, .any, .any, .any, .any, .any, .any, .any, .any, .any, .any, .any, .any, .any, .any, .any, .any, .any, .any, .any, .any, .any, .any, .any, .any, .any, .any, .any, .any, .any, .any, .any, .any, .any, .any]) ?_ ?_)
    rotate_left
    · rintro e env s2 ⟨rfl, E2, R2, S2, seen2, sid2, sver2, L2, qid2, qver2, e2, r2, hO2, hle⟩
      refine awp_weaken hle (awp_c (M := []) ?_)
      simp -implicitDefEqProofs (maxSteps := 1000000) only [go_sem, reduceCtorEq, Nat.reduceAdd, Nat.reduceMul, Nat.reduceLeDiff, Nat.reduceLT, Int.reduceLE, Int.reduceLT, Int.reduceEq, Nat.reduceBEq, Nat.reduceEqDiff, hw]
      refine ⟨m - 1, _, by omega, ?_, k + 1, E2, R2, S2, seen2, sid2, sver2, L2, qid2, qver2, by omega, e2, r2, hO2, rfl⟩
      repeat (first | exact leEnv_nil | refine leEnv_any _ ?_ | refine leEnv_same _ ?_ | refine leEnv_norm _ ?_)
    refine awp_block ?_
    have hE := hO.both.eng
    have hR := hO.both.ref
    have hFe := hO.pl.fine.fine hE (by omega)
    have hFr := hO.pl.fined.fine (by omega)
    obtain ⟨d, hd⟩ : ∃ d, d = l.getD k default := ⟨_, rfl⟩
    have hgd := dd_getD' c.1
    rw [← hd] at hgd
    have hgd' : (l.map ddSV).getD k .any = .agg [i64 d.kind, i64 d.t, i64 d.n, i64 d.v] := hgd
    obtain ⟨s1, hs1⟩ : ∃ s1, s1 = s' ++ [Ob.cells [i64 d.kind, i64 d.t, i64 d.n, i64 d.v]] := ⟨_, rfl⟩
    have hO1 : OqI k s1 E R S seen sid sver L qid qver := by rw [hs1]; exact hO.app _
    obtain ⟨bx, hbx⟩ : ∃ bx, bx = s'.length := ⟨_, rfl⟩
    have hb1 : s1[bx]? = some (.cells [i64 d.kind, i64 d.t, i64 d.n, i64 d.v]) := by rw [hs1, hbx]; simp
    have bf := cells_facts hb1
    have hbs : ∀ j, E.has j ∨ R.has j ∨ StHas sid L j ∨ j = qid → j ≠ bx := fun j hj => by
      have : j < s'.length := by
        rcases hj with hj | hj | hj | rfl
        · exact hE.has_lt hj
        · exact hR.has_lt hj
        · exact hO.st.lt hj
        · exact lt_of_get hO.tok
      omega
    -- the deed
    refine awp_seq (AWp.mono (Q := fun e env s2 => e = .normal ∧ s2 = s1 ∧ LeEnv env [.slice .imm 4 (l.map ddSV), .any, .any, .ptr E0.id 0, .ptr R0.id 0, .arr sid sver S.length, .slice (.own qid qver) 3 (seen.map snV), i64 k, .ptr bx 0, .any, .any, .any, .any, .any, .any, .any, .any, .any, .any, .any, .any, .any, .any, .any, .any, .any, .any, .any, .any, .any, .any, .any, .any, .any, .any, .any, .any, .any, .any, .any, .any, .any, .any, .any, .any, .any, .any, .any, .any, .any, .any, .any, .any, .any, .any, .any, .any, .any, .any, .any, .any, .any, .any, .any, .any, .any, .any, .any, .any, .any, .any, .any, .any, .any, .any, .any, .any, .any, .any, .any, .any, .any, .any, .any, .any, .any, .any, .any, .any, .any, .any, .any, .any, .any, .any, .any, .any, .any, .any, .any, .any, .any, .any, .any, .any, .any, .any, .any, .any, .any, .any, .any, .any, .any, .any, .any, .any, .any, .any, .any, .any, .any, .any, .any, .any, .any, .any, .any, .any, .any, .any, .any, .any, .any, .any, .any, .any, .any, .any, .any, .any, .any, .any, .any, .any, .any, .any, .any, .any, .any, .any, .any, .any, .any, .any, .any, .any, .any, .any, .any, .any, .any, .any, .any, .any, .any, .any, .any, .any, .any, .any, .any, .any, .any, .any, .any, .any, .any, .any, .any, .any, .any, .any, .any, .any, .any, .any, .any, .any, .any, .any, .any, .any, .any, .any, .any, .any, .any, .any, .any, .any, .any, .any, .any, .any, .any, .any, .any, .any, .any, .any, .any, .any, .any, .any, .any, .any, .any, .any]) ?_ ?_)
    · refine awp_c (M := []) ?_
      simp -implicitDefEqProofs (maxSteps := 1000000) only [go_sem, reduceCtorEq, Nat.reduceAdd, Nat.reduceMul, Nat.reduceLeDiff, Nat.reduceLT, Int.reduceLE, Int.reduceLT, Int.reduceEq, Nat.reduceBEq, Nat.reduceEqDiff, c1, c0, hgd']
      refine ⟨hs1.symm, ?_⟩
      rw [← hbx]
      repeat (first | exact leEnv_nil | refine leEnv_any _ ?_ | refine leEnv_same _ ?_ | refine leEnv_norm _ ?_)
    rintro e env s2 ⟨rfl, rfl, hle⟩
    refine awp_weaken hle ?_
    clear hle
    refine awp_seq (awp_c (M := []) ?_)
    simp -implicitDefEqProofs (maxSteps := 1000000) only [go_sem, reduceCtorEq, Nat.reduceAdd, Nat.reduceMul, Nat.reduceLeDiff, Nat.reduceLT, Int.reduceLE, Int.reduceLT, Int.reduceEq, Nat.reduceBEq, Nat.reduceEqDiff]
    -- its writes
    obtain ⟨puts, hputs⟩ : ∃ puts, puts = putsR R.abs d.t := ⟨_, rfl⟩
    refine awp_seq (AWp.mono (Q := fun e env s3 => e = .normal ∧ s3 = s2 ∧ ∃ x9, (x9 = .slice .imm 3 (puts.map pwV) ∨ (puts = [] ∧ x9 = .slice .full 0 [])) ∧
      LeEnv env [.slice .imm 4 (l.map ddSV), .any, .any, .ptr E0.id 0, .ptr R0.id 0, .arr sid sver S.length, .slice (.own qid qver) 3 (seen.map snV), i64 k, .ptr bx 0, x9, .any, .any, .any, .any, .any, .any, .any, .any, .any, .any, .any, .any, .any, .any, .any, .any, .any, .any, .any, .any, .any, .any, .any, .any, .any, .any, .any, .any, .any, .any, .any, .any, .any, .any, .any, .any, .any, .any, .any, .any, .any, .any, .any, .any, .any, .any, .any, .any, .any, .any, .any, .any, .any, .any, .any, .any, .any, .any, .any, .any, .any, .any, .any, .any, .any, .any, .any, .any, .any, .any, .any, .any, .any, .any, .any, .any, .any, .any, .any, .any, .any, .any, .any, .any, .any, .any, .any, .any, .any, .any, .any, .any, .any, .any, .any, .any, .any, .any, .any, .any, .any, .any, .any, .any, .any, .any, .any, .any, .any, .any, .any, .any, .any, .any, .any, .any, .any, .any, .any, .any, .any, .any, .any, .any, .any, .any, .any, .any, .any, .any, .any, .any, .any, .any, .any, .any, .any, .any, .any, .any, .any, .any, .any, .any, .any, .any, .any, .any, .any, .any, .any, .any, .any, .any, .any, .any, .any, .any, .any, .any, .any, .any, .any, .any, .any, .any, .any, .any, .any, .any, .any, .any, .any, .any, .any, .any, .any, .any, .any, .any, .any, .any, .any, .any, .any, .any, .any, .any, .any, .any, .any, .any, .any, .any, .any, .any, .any, .any, .any, .any, .any, .any, .any, .any, .any, .any, .any, .any, .any]) ?_ ?_)
    · refine awp_c (M := []) ?_
      by_cases c3 : 0 ≤ d.t ∧ d.t < 8
      · have f := cells_facts hO1.both.ref.cells
        have g := cells_facts hO1.both.ref.txs
        rw [r1] at f
        have c4 : d.t < ((8 : Nat) : Int) := c3.2
        obtain ⟨y, hy, hg⟩ := hR.at c3
        have dd := rx_all hy
        have hpl := hO.pl.fined.tx _ _ (hFr.at hy)
        have hsr := rsorted_c (hO1.both.ref.puts _ _ hy) (by have := hpl.plen; omega) 1
        have hps : puts = sortR 1 y.x.puts := by rw [hputs]; unfold putsR; rw [if_pos c3, hg]
        rw [← hps] at hsr
        simp -implicitDefEqProofs (maxSteps := 1000000) only [go_sem, reduceCtorEq, Nat.reduceAdd, Nat.reduceMul, Nat.reduceLeDiff, Nat.reduceLT, Int.reduceLE, Int.reduceLT, Int.reduceEq, Nat.reduceBEq, Nat.reduceEqDiff, bf.1, bf.2.1, bf.2.2, c3.1, c3.2]
        refine awp_draw [] Try.mixed rfl ?_
        simp -implicitDefEqProofs (maxSteps := 1000000) only [go_sem, reduceCtorEq, Nat.reduceAdd, Nat.reduceMul, Nat.reduceLeDiff, Nat.reduceLT, Int.reduceLE, Int.reduceLT, Int.reduceEq, Nat.reduceBEq, Nat.reduceEqDiff, bf.1, bf.2.1, bf.2.2, c3.1, c3.2, c4, f.1, f.2.1, f.2.2, RG.cells, g.1, g.2.1, g.2.2, dd.1, dd.2.1, dd.2.2.1, dd.2.2.2.1]
        refine ⟨.slice .imm 3 (puts.map pwV), ?_, ?_⟩
        · simp -implicitDefEqProofs (maxSteps := 1000000) only [go_sem, reduceCtorEq, Nat.reduceAdd, Nat.reduceMul, Nat.reduceLeDiff, Nat.reduceLT, Int.reduceLE, Int.reduceLT, Int.reduceEq, Nat.reduceBEq, Nat.reduceEqDiff]
          exact hsr _ ⟨⟨[], by simp⟩, ids_pws _ _, .inl rfl⟩
        simp -implicitDefEqProofs (maxSteps := 1000000) only [go_sem, reduceCtorEq, Nat.reduceAdd, Nat.reduceMul, Nat.reduceLeDiff, Nat.reduceLT, Int.reduceLE, Int.reduceLT, Int.reduceEq, Nat.reduceBEq, Nat.reduceEqDiff]
        refine ⟨_, .inl rfl, ?_⟩
        repeat (first | exact leEnv_nil | refine leEnv_any _ ?_ | refine leEnv_same _ ?_ | refine leEnv_norm _ ?_)
      · have hps : puts = [] := by rw [hputs]; unfold putsR; rw [if_neg c3]
        by_cases c4 : 0 ≤ d.t
        · have c5 : ¬ d.t < 8 := fun q => c3 ⟨c4, q⟩
          simp -implicitDefEqProofs (maxSteps := 1000000) only [go_sem, reduceCtorEq, Nat.reduceAdd, Nat.reduceMul, Nat.reduceLeDiff, Nat.reduceLT, Int.reduceLE, Int.reduceLT, Int.reduceEq, Nat.reduceBEq, Nat.reduceEqDiff, bf.1, bf.2.1, bf.2.2, c4, c5]
          refine ⟨_, .inr ⟨hps, rfl⟩, ?_⟩
          repeat (first | exact leEnv_nil | refine leEnv_any _ ?_ | refine leEnv_same _ ?_ | refine leEnv_norm _ ?_)
        · simp -implicitDefEqProofs (maxSteps := 1000000) only [go_sem, reduceCtorEq, Nat.reduceAdd, Nat.reduceMul, Nat.reduceLeDiff, Nat.reduceLT, Int.reduceLE, Int.reduceLT, Int.reduceEq, Nat.reduceBEq, Nat.reduceEqDiff, bf.1, bf.2.1, bf.2.2, c4]
          refine ⟨_, .inr ⟨hps, rfl⟩, ?_⟩
          repeat (first | exact leEnv_nil | refine leEnv_any _ ?_ | refine leEnv_same _ ?_ | refine leEnv_norm _ ?_)
    rintro e env s3 ⟨rfl, rfl, x9, hx9, hle⟩
    refine awp_weaken hle ?_
    clear hle
    -- its own
    obtain ⟨own, hown⟩ : ∃ own, own = (d.kind == 1 && wroteR R.abs d.t d.n) := ⟨_, rfl⟩
    refine awp_seq (AWp.mono (Q := fun e env s4 => e = .normal ∧ s4 = s3 ∧
      LeEnv env [.slice .imm 4 (l.map ddSV), .any, .any, .ptr E0.id 0, .ptr R0.id 0, .arr sid sver S.length, .slice (.own qid qver) 3 (seen.map snV), i64 k, .ptr bx 0, x9, .sc (.bool own), .any, .any, .any, .any, .any, .any, .any, .any, .any, .any, .any, .any, .any, .any, .any, .any, .any, .any, .any, .any, .any, .any, .any, .any, .any, .any, .any, .any, .any, .any, .any, .any, .any, .any, .any, .any, .any, .any, .any, .any, .any, .any, .any, .any, .any, .any, .any, .any, .any, .any, .any, .any, .any, .any, .any, .any, .any, .any, .any, .any, .any, .any, .any, .any, .any, .any, .any, .any, .any, .any, .any, .any, .any, .any, .any, .any, .any, .any, .any, .any, .any, .any, .any, .any, .any, .any, .any, .any, .any, .any, .any, .any, .any, .any, .any, .any, .any, .any, .any, .any, .any, .any, .any, .any, .any, .any, .any, .any, .any, .any, .any, .any, .any, .any, .any, .any, .any, .any, .any, .any, .any, .any, .any, .any, .any, .any, .any, .any, .any, .any, .any, .any, .any, .any, .any, .any, .any, .any, .any, .any, .any, .any, .any, .any, .any, .any, .any, .any, .any, .any, .any, .any, .any, .any, .any, .any, .any, .any, .any, .any, .any, .any, .any, .any, .any, .any, .any, .any, .any, .any, .any, .any, .any, .any, .any, .any, .any, .any, .any, .any, .any, .any, .any, .any, .any, .any, .any, .any, .any, .any, .any, .any, .any, .any, .any, .any, .any, .any, .any, .any, .any, .any, .any, .any, .any, .any, .any, .any]) ?_ ?_)
    · refine awp_c (M := []) ?_
      have hwr := wrote_c hO1.both.ref hFr (by omega) d.t d.n
      rw [r1] at hwr
      by_cases k1 : d.kind = 1
      · have b1 : (d.kind == 1) = true := by simp [k1]
        rw [b1, Bool.true_and] at hown
        rw [← hown] at hwr
        simp -implicitDefEqProofs (maxSteps := 1000000) only [go_sem, reduceCtorEq, Nat.reduceAdd, Nat.reduceMul, Nat.reduceLeDiff, Nat.reduceLT, Int.reduceLE, Int.reduceLT, Int.reduceEq, Nat.reduceBEq, Nat.reduceEqDiff, bf.1, bf.2.1, bf.2.2, b1]
        refine hwr _ ?_
        simp -implicitDefEqProofs (maxSteps := 1000000) only [go_sem, reduceCtorEq, Nat.reduceAdd, Nat.reduceMul, Nat.reduceLeDiff, Nat.reduceLT, Int.reduceLE, Int.reduceLT, Int.reduceEq, Nat.reduceBEq, Nat.reduceEqDiff, bf.1, bf.2.1, bf.2.2, b1]
        repeat (first | exact leEnv_nil | refine leEnv_any _ ?_ | refine leEnv_same _ ?_ | refine leEnv_norm _ ?_)
      · have b1 : (d.kind == 1) = false := by simp [k1]
        rw [b1, Bool.false_and] at hown
        rw [hown]
        simp -implicitDefEqProofs (maxSteps := 1000000) only [go_sem, reduceCtorEq, Nat.reduceAdd, Nat.reduceMul, Nat.reduceLeDiff, Nat.reduceLT, Int.reduceLE, Int.reduceLT, Int.reduceEq, Nat.reduceBEq, Nat.reduceEqDiff, bf.1, bf.2.1, bf.2.2, b1]
        repeat (first | exact leEnv_nil | refine leEnv_any _ ?_ | refine leEnv_same _ ?_ | refine leEnv_norm _ ?_)
    rintro e env s4 ⟨rfl, rfl, hle⟩
    refine awp_weaken hle ?_
    clear hle
    -- the deed is done
    have hown' : d.kind = 1 → ∀ x, E.abs.opn d.t = some x → own = (topGet x.maps d.n).isSome := fun k1 x hx => by
      rw [hown, k1]
      exact own_same hO.pl.sim hx
    have key := opq_does hO.opq hO.sn hO.pl.ser hO.pl.fine hO.pl.ver d (own := own) (puts := puts) hown' (fun x hx => by rw [hputs]; exact putsR_same hO.pl.sim hO.pl.fine hO.pl.fined hx)
    have hdd := pl_does hO.pl d
    obtain ⟨a, ha⟩ : ∃ a, a = (doesF E.abs d).1 := ⟨_, rfl⟩
    rw [← ha] at key
    refine awp_seq (AWp.mono (Q := fun e env s5 => e = .normal ∧ ∃ (E2 : EG) (R2 : RG) (ba : Nat), Both s5 E2 R2 ∧ E2.id = E0.id ∧ R2.id = R0.id ∧ E2.abs = (doesF E.abs d).2 ∧ R2.abs = (doesR R.abs d).2 ∧
      (∀ j, j < s4.length → ¬ E.has j → ¬ R.has j → s5[j]? = s4[j]?) ∧ (∀ j, E2.has j ∨ R2.has j → E.has j ∨ R.has j ∨ s4.length ≤ j) ∧ s5[ba]? = some (.cells [i64 a.1, i64 a.2]) ∧
      LeEnv env [.slice .imm 4 (l.map ddSV), .any, .any, .ptr E0.id 0, .ptr R0.id 0, .arr sid sver S.length, .slice (.own qid qver) 3 (seen.map snV), i64 k, .ptr bx 0, x9, .sc (.bool own), .ptr ba 0, .any, .any, .any, .any, .any, .any, .any, .any, .any, .any, .any, .any, .any, .any, .any, .any, .any, .any, .any, .any, .any, .any, .any, .any, .any, .any, .any, .any, .any, .any, .any, .any, .any, .any, .any, .any, .any, .any, .any, .any, .any, .any, .any, .any, .any, .any, .any, .any, .any, .any, .any, .any, .any, .any, .any, .any, .any, .any, .any, .any, .any, .any, .any, .any, .any, .any, .any, .any, .any, .any, .any, .any, .any, .any, .any, .any, .any, .any, .any, .any, .any, .any, .any, .any, .any, .any, .any, .any, .any, .any, .any, .any, .any, .any, .any, .any, .any, .any, .any, .any, .any, .any, .any, .any, .any, .any, .any, .any, .any, .any, .any, .any, .any, .any, .any, .any, .any, .any, .any, .any, .any, .any, .any, .any, .any, .any, .any, .any, .any, .any, .any, .any, .any, .any, .any, .any, .any, .any, .any, .any, .any, .any, .any, .any, .any, .any, .any, .any, .any, .any, .any, .any, .any, .any, .any, .any, .any, .any, .any, .any, .any, .any, .any, .any, .any, .any, .any, .any, .any, .any, .any, .any, .any, .any, .any, .any, .any, .any, .any, .any, .any, .any, .any, .any, .any, .any, .any, .any, .any, .any, .any, .any, .any, .any, .any, .any, .any, .any, .any, .any, .any, .any, .any, .any, .any, .any, .any]) ?_ ?_)
    · have hdc := does_c hO1.both (hO1.pl.fine.fine hO1.both.eng (by omega)) hFr d (hO.pl.fined.done d.t)
      rw [e1, r1, ← ha] at hdc
      refine awp_c (M := []) ?_
      simp -implicitDefEqProofs (maxSteps := 1000000) only [go_sem, reduceCtorEq, Nat.reduceAdd, Nat.reduceMul, Nat.reduceLeDiff, Nat.reduceLT, Int.reduceLE, Int.reduceLT, Int.reduceEq, Nat.reduceBEq, Nat.reduceEqDiff, bf.1, bf.2.1, bf.2.2]
      refine hdc _ fun s5 E2 R2 q1 q2 q3 q4 q5 q6 q7 q8 => ?_
      obtain ⟨b, hb'⟩ : ∃ b, b = (doesR R.abs d).1 := ⟨_, rfl⟩
      simp -implicitDefEqProofs (maxSteps := 1000000) only [go_sem, reduceCtorEq, Nat.reduceAdd, Nat.reduceMul, Nat.reduceLeDiff, Nat.reduceLT, Int.reduceLE, Int.reduceLT, Int.reduceEq, Nat.reduceBEq, Nat.reduceEqDiff]
      refine ⟨E2, R2, s5.length, q1.app _, q2, q3, q4, q5, fun j h1 h2 h3 => ?_, q8, by simp, ?_⟩
      · rw [List.getElem?_append_left (by omega)]; exact q7 j h1 h2 h3
      · repeat (first | exact leEnv_nil | refine leEnv_any _ ?_ | refine leEnv_same _ ?_ | refine leEnv_norm _ ?_)
    rintro e env s5 ⟨rfl, E2, R2, ba, hB5, e2, r2, ea2, ra2, q7, q8, hba, hle⟩
    refine awp_weaken hle ?_
    clear hle
    have hp5 : PlI (4 + (k + 1)) E2.abs R2.abs := by rw [ea2, ra2]; exact hdd.2
    rw [← ea2] at key
    have hsx : ∀ j, StHas sid L j ∨ j = qid → j < s4.length := fun j hj => hj.elim hO1.st.lt fun e => by rw [e]; exact lt_of_get hO1.tok
    have hse : ∀ j, StHas sid L j ∨ j = qid → s5[j]? = s4[j]? := fun j hj => q7 j (hsx j hj) (hO1.ap j hj).1 (hO1.ap j hj).2
    have hst5 : StAt s5 sid sver L S := hO1.st.same fun j hj => hse j (.inl hj)
    have htk5 : s5[qid]? = some (.tok qver) := (hse qid (.inr rfl)).trans hO1.tok
    have hap5 : ∀ j, StHas sid L j ∨ j = qid → ¬ E2.has j ∧ ¬ R2.has j := fun j hj => by
      have h1 := hsx j hj
      have h2 := hO1.ap j hj
      refine ⟨fun q => ?_, fun q => ?_⟩
      · rcases q8 j (.inl q) with h3 | h3 | h3
        · exact h2.1 h3
        · exact h2.2 h3
        · omega
      · rcases q8 j (.inr q) with h3 | h3 | h3
        · exact h2.1 h3
        · exact h2.2 h3
        · omega
    have hbd : s5[bx]? = some (.cells [i64 d.kind, i64 d.t, i64 d.n, i64 d.v]) := (q7 bx (lt_of_get hb1) (fun q => hbs bx (.inl q) rfl) (fun q => hbs bx (.inr (.inl q)) rfl)).trans hb1
    have bf := cells_facts hbd
    have ba' := cells_facts hba
    have hns := hO.nseen
    clear q7 q8 hsx hse
    -- is it refused?
    refine awp_seq (AWp.mono (Q := fun e env s6 => s6 = s5 ∧ ((e = .normal ∧ a.2 = 0 ∧ LeEnv env [.slice .imm 4 (l.map ddSV), .any, .any, .ptr E0.id 0, .ptr R0.id 0, .arr sid sver S.length, .slice (.own qid qver) 3 (seen.map snV), i64 k, .ptr bx 0, x9, .sc (.bool own), .ptr ba 0, .any, .any, .any, .any, .any, .any, .any, .any, .any, .any, .any, .any, .any, .any, .any, .any, .any, .any, .any, .any, .any, .any, .any, .any, .any, .any, .any, .any, .any, .any, .any, .any, .any, .any, .any, .any, .any, .any, .any, .any, .any, .any, .any, .any, .any, .any, .any, .any, .any, .any, .any, .any, .any, .any, .any, .any, .any, .any, .any, .any, .any, .any, .any, .any, .any, .any, .any, .any, .any, .any, .any, .any, .any, .any, .any, .any, .any, .any, .any, .any, .any, .any, .any, .any, .any, .any, .any, .any, .any, .any, .any, .any, .any, .any, .any, .any, .any, .any, .any, .any, .any, .any, .any, .any, .any, .any, .any, .any, .any, .any, .any, .any, .any, .any, .any, .any, .any, .any, .any, .any, .any, .any, .any, .any, .any, .any, .any, .any, .any, .any, .any, .any, .any, .any, .any, .any, .any, .any, .any, .any, .any, .any, .any, .any, .any, .any, .any, .any, .any, .any, .any, .any, .any, .any, .any, .any, .any, .any, .any, .any, .any, .any, .any, .any, .any, .any, .any, .any, .any, .any, .any, .any, .any, .any, .any, .any, .any, .any, .any, .any, .any, .any, .any, .any, .any, .any, .any, .any, .any, .any, .any, .any, .any, .any, .any, .any, .any, .any, .any, .any, .any, .any, .any, .any, .any, .any, .any]) ∨
      (e = .exit 1 ∧ a.2 ≠ 0 ∧ LeEnv env [.slice .imm 4 (l.map ddSV), .any, .any, .ptr E0.id 0, .ptr R0.id 0, .arr sid sver S.length, .slice (.own qid qver) 3 (seen.map snV), i64 k, .any, .any, .any, .any, .any, .any, .any, .any, .any, .any, .any, .any, .any, .any, .any, .any, .any, .any, .any, .any, .any, .any, .any, .any, .any, .any, .any, .any, .any, .any, .any, .any, .any, .any, .any, .any, .any, .any, .any, .any, .any, .any, .any, .any, .any, .any, .any, .any, .any, .any, .any, .any, .any, .any, .any, .any, .any, .any, .any, .any, .any, .any, .any, .any, .any, .any, .any, .any, .any, .any, .any, .any, .any, .any, .any, .any, .any, .any, .any, .any, .any, .any, .any, .any, .any, .any, .any, .any, .any, .any, .any, .any, .any, .any, .any, .any, .any, .any, .any, .any, .any, .any, .any, .any, .any, .any, .any, .any, .any, .any, .any, .any, .any, .any, .any, .any, .any, .any, .any, .any, .any, .any, .any, .any, .any, .any, .any, .any, .any, .any, .any, .any, .any, .any, .any, .any, .any, .any, .any, .any, .any, .any, .any, .any, .any, .any, .any, .any, .any, .any, .any, .any, .any, .any, .any, .any, .any, .any, .any, .any, .any, .any, .any, .any, .any, .any, .any, .any, .any, .any, .any, .any, .any, .any, .any, .any, .any, .any, .any, .any, .any, .any, .any, .any, .any, .any, .any, .any, .any, .any, .any, .any, .any, .any, .any, .any, .any, .any, .any, .any, .any, .any, .any, .any, .any, .any, .any, .any, .any, .any, .any]))) ?_ ?_)
    · refine awp_c (M := []) ?_
      by_cases z : a.2 = 0
      · have zb : (a.2 != 0) = false := by simp [z]
        simp -implicitDefEqProofs (maxSteps := 1000000) only [go_sem, reduceCtorEq, Nat.reduceAdd, Nat.reduceMul, Nat.reduceLeDiff, Nat.reduceLT, Int.reduceLE, Int.reduceLT, Int.reduceEq, Nat.reduceBEq, Nat.reduceEqDiff, ba'.1, ba'.2.1, ba'.2.2, zb]
        refine .inl ⟨z, ?_⟩
        repeat (first | exact leEnv_nil | refine leEnv_any _ ?_ | refine leEnv_same _ ?_ | refine leEnv_norm _ ?_)
      · have zb : (a.2 != 0) = true := by simp [z]
        simp -implicitDefEqProofs (maxSteps := 1000000) only [go_sem, reduceCtorEq, Nat.reduceAdd, Nat.reduceMul, Nat.reduceLeDiff, Nat.reduceLT, Int.reduceLE, Int.reduceLT, Int.reduceEq, Nat.reduceBEq, Nat.reduceEqDiff, ba'.1, ba'.2.1, ba'.2.2, zb]
        refine .inr ⟨z, ?_⟩
        repeat (first | exact leEnv_nil | refine leEnv_any _ ?_ | refine leEnv_same _ ?_ | refine leEnv_norm _ ?_)
    rintro e env s6 ⟨rfl, ⟨rfl, z, hle⟩ | ⟨rfl, z, hle⟩⟩
    rotate_left
    · rw [opqF_err z] at key
      exact ⟨rfl, E2, R2, S, seen, sid, sver, L, qid, qver, e2, r2, ⟨hB5, hp5, key.1, key.2, by omega, hst5, htk5, hap5⟩, hle⟩
    refine awp_weaken hle ?_
    clear hle
    -- what is kept
    have happS := app_seen (n := seen.length + 1) (by omega)
    have hqn : ¬ StHas sid L qid := fun q => by
      rcases q with q | q
      · rw [q, hst5.outer] at htk5; cases htk5
      · obtain ⟨p, hp, e⟩ := List.mem_map.1 q
        obtain ⟨i, hi⟩ := List.getElem?_of_mem hp
        have hiS : i < S.length := by rw [← hst5.len]; exact lt_of_get hi
        have := hst5.inner i p S[i] hi (List.getElem?_eq_getElem hiS)
        rw [e, htk5] at this; cases this
    refine awp_seq (AWp.mono (Q := fun e env s7 => e = .normal ∧ ∃ (S2 : List (List Int)) (seen2 : List SN) (sid2 sver2 : Nat) (L2 : List (Nat × Nat)) (qid2 qver2 : Nat), OqI (k + 1) s7 E2 R2 S2 seen2 sid2 sver2 L2 qid2 qver2 ∧
      LeEnv env [.slice .imm 4 (l.map ddSV), .any, .any, .ptr E0.id 0, .ptr R0.id 0, .arr sid2 sver2 S2.length, .slice (.own qid2 qver2) 3 (seen2.map snV), i64 k, .any, .any, .any, .any, .any, .any, .any, .any, .any, .any, .any, .any, .any, .any, .any, .any, .any, .any, .any, .any, .any, .any, .any, .any, .any, .any, .any, .any, .any, .any, .any, .any, .any, .any, .any, .any, .any, .any, .any, .any, .any, .any, .any, .any, .any, .any, .any, .any, .any, .any, .any, .any, .any, .any, .any, .any, .any, .any, .any, .any, .any, .any, .any, .any, .any, .any, .any, .any, .any, .any, .any, .any, .any, .any, .any, .any, .any, .any, .any, .any, .any, .any, .any, .any, .any, .any, .any, .any, .any, .any, .any, .any, .any, .any, .any, .any, .any, .any, .any, .any, .any, .any, .any, .any, .any, .any, .any, .any, .any, .any, .any, .any, .any, .any, .any, .any, .any, .any, .any, .any, .any, .any, .any, .any, .any, .any, .any, .any, .any, .any, .any, .any, .any, .any, .any, .any, .any, .any, .any, .any, .any, .any, .any, .any, .any, .any, .any, .any, .any, .any, .any, .any, .any, .any, .any, .any, .any, .any, .any, .any, .any, .any, .any, .any, .any, .any, .any, .any, .any, .any, .any, .any, .any, .any, .any, .any, .any, .any, .any, .any, .any, .any, .any, .any, .any, .any, .any, .any, .any, .any, .any, .any, .any, .any, .any, .any, .any, .any, .any, .any, .any, .any, .any, .any, .any, .any, .any, .any, .any, .any, .any]) ?_ ?_)
    · -- nothing is kept
      have same : opqF a d own puts S seen = (S, seen) → OqI (k + 1) s6 E2 R2 S seen sid sver L qid qver := fun e => by
        rw [e] at key
        exact ⟨hB5, hp5, key.1, key.2, by omega, hst5, htk5, hap5⟩
      -- what others have seen is kept
      have wo : ∀ ver, opqF a d own puts S seen = (S, withoutL seen d.t) → OqI (k + 1) (s6 ++ [.tok ver]) E2 R2 S (withoutL seen d.t) sid sver L s6.length ver := fun ver e => by
        rw [e] at key
        refine ⟨hB5.app _, hp5, key.1, key.2, ?_, hst5.app _, by simp, fun j hj => ?_⟩
        · have := List.length_filter_le (fun s : SN => decide (s.t ≠ d.t)) seen
          show (seen.filter _).length ≤ _
          omega
        · rcases hj with hj | rfl
          · exact hap5 j (.inl hj)
          · exact ⟨fun q => by have := hB5.eng.has_lt q; omega, fun q => by have := hB5.ref.has_lt q; omega⟩
      have hwo := fun K h => @without_c s6 (.own qid qver) seen (by omega) d.t K h
      by_cases k07 : d.kind = 0 ∨ d.kind = 7
      · have hq : opqF a d own puts S seen = (S, withoutL seen d.t) := by unfold opqF; rw [if_neg (by simp [z]), if_pos k07]
        refine awp_c (M := []) ?_
        rcases k07 with k0 | k7
        · have b0 : (d.kind == 0) = true := by simp [k0]
          simp -implicitDefEqProofs (maxSteps := 1000000) only [go_sem, reduceCtorEq, Nat.reduceAdd, Nat.reduceMul, Nat.reduceLeDiff, Nat.reduceLT, Int.reduceLE, Int.reduceLT, Int.reduceEq, Nat.reduceBEq, Nat.reduceEqDiff, bf.1, bf.2.1, bf.2.2, b0]
          refine hwo _ fun ver => ?_
          simp -implicitDefEqProofs (maxSteps := 1000000) only [go_sem, reduceCtorEq, Nat.reduceAdd, Nat.reduceMul, Nat.reduceLeDiff, Nat.reduceLT, Int.reduceLE, Int.reduceLT, Int.reduceEq, Nat.reduceBEq, Nat.reduceEqDiff]
          refine ⟨S, _, sid, sver, L, s6.length, ver, wo ver hq, ?_⟩
          repeat (first | exact leEnv_nil | refine leEnv_any _ ?_ | refine leEnv_same _ ?_ | refine leEnv_norm _ ?_)
        · have b0 : (d.kind == 0) = false := by simp [k7]
          have b7 : (d.kind == 7) = true := by simp [k7]
          simp -implicitDefEqProofs (maxSteps := 1000000) only [go_sem, reduceCtorEq, Nat.reduceAdd, Nat.reduceMul, Nat.reduceLeDiff, Nat.reduceLT, Int.reduceLE, Int.reduceLT, Int.reduceEq, Nat.reduceBEq, Nat.reduceEqDiff, bf.1, bf.2.1, bf.2.2, b0, b7]
          refine hwo _ fun ver => ?_
          simp -implicitDefEqProofs (maxSteps := 1000000) only [go_sem, reduceCtorEq, Nat.reduceAdd, Nat.reduceMul, Nat.reduceLeDiff, Nat.reduceLT, Int.reduceLE, Int.reduceLT, Int.reduceEq, Nat.reduceBEq, Nat.reduceEqDiff]
          refine ⟨S, _, sid, sver, L, s6.length, ver, wo ver hq, ?_⟩
          repeat (first | exact leEnv_nil | refine leEnv_any _ ?_ | refine leEnv_same _ ?_ | refine leEnv_norm _ ?_)
      have b0 : (d.kind == 0) = false := by simpa using fun q => k07 (.inl q)
      have b7 : (d.kind == 7) = false := by simpa using fun q => k07 (.inr q)
      by_cases k1 : d.kind = 1
      · have b1 : (d.kind == 1) = true := by simp [k1]
        have hq : opqF a d own puts S seen = (S, if own = true then seen else seen ++ [⟨d.t, d.n, a.1⟩]) := by unfold opqF; rw [if_neg (by simp [z]), if_neg k07, if_pos k1]
        refine awp_c (M := []) ?_
        cases ho : own with
        | true =>
          rw [ho, if_pos rfl, ← ho] at hq
          simp -implicitDefEqProofs (maxSteps := 1000000) only [go_sem, reduceCtorEq, Nat.reduceAdd, Nat.reduceMul, Nat.reduceLeDiff, Nat.reduceLT, Int.reduceLE, Int.reduceLT, Int.reduceEq, Nat.reduceBEq, Nat.reduceEqDiff, bf.1, bf.2.1, bf.2.2, b0, b7, b1]
          refine ⟨S, seen, sid, sver, L, qid, qver, same hq, ?_⟩
          repeat (first | exact leEnv_nil | refine leEnv_any _ ?_ | refine leEnv_same _ ?_ | refine leEnv_norm _ ?_)
        | false =>
          rw [ho, if_neg (by decide), ← ho] at hq
          have tk := tokAt_eq (v' := qver) htk5
          simp -implicitDefEqProofs (maxSteps := 1000000) only [go_sem, reduceCtorEq, Nat.reduceAdd, Nat.reduceMul, Nat.reduceLeDiff, Nat.reduceLT, Int.reduceLE, Int.reduceLT, Int.reduceEq, Nat.reduceBEq, Nat.reduceEqDiff, bf.1, bf.2.1, bf.2.2, ba'.1, ba'.2.1, ba'.2.2, b0, b7, b1, tk]
          rw [hq] at key
          refine ⟨happS, S, seen ++ [⟨d.t, d.n, a.1⟩], sid, sver, L, qid, qver + 1, ⟨hB5.same fun j hj => List.getElem?_set_ne fun q => ?_, hp5, key.1, key.2, by simp; omega, hst5.same fun j hj => List.getElem?_set_ne fun q => ?_, List.getElem?_set_self (lt_of_get htk5), hap5⟩, ?_⟩
          · have := hap5 qid (.inr rfl)
            rw [q] at this
            exact hj.elim this.1 this.2
          · exact hqn (by rw [q]; exact hj)
          · rw [List.map_append]
            repeat (first | exact leEnv_nil | refine leEnv_any _ ?_ | refine leEnv_same _ ?_ | refine leEnv_norm _ ?_)
      have b1 : (d.kind == 1) = false := by simpa using k1
      by_cases k8 : d.kind = 8
      · have b8 : (d.kind == 8) = true := by simp [k8]
        have hq : opqF a d own puts S seen = (S.map (· ++ [d.v]), seen) := by unfold opqF; rw [if_neg (by simp [z]), if_neg k07, if_neg k1, if_pos k8]
        rw [hq] at key
        have hSl : S.length ≤ 100 := by
          have h1 := hO.opq.len
          have h2 := hO.pl.fine.clk
          omega
        refine awp_c (M := []) ?_
        simp -implicitDefEqProofs (maxSteps := 1000000) only [go_sem, reduceCtorEq, Nat.reduceAdd, Nat.reduceMul, Nat.reduceLeDiff, Nat.reduceLT, Int.reduceLE, Int.reduceLT, Int.reduceEq, Nat.reduceBEq, Nat.reduceEqDiff, bf.1, bf.2.1, bf.2.2, b0, b7, b1, b8]
        refine awp_rounds [] (fun m e s8 => ∃ (j : Nat) (L1 : List (Nat × Nat)) (S1 : List (List Int)), j + m = S.length ∧ S1 = (S.take j).map (· ++ [d.v]) ++ S.drop j ∧ StAt s8 sid sver L1 S1 ∧ L1.map (·.1) = L.map (·.1) ∧ (∀ i, ¬ StHas sid L i → s8[i]? = s6[i]?) ∧
          e = [.slice .imm 4 (l.map ddSV), .any, .any, .ptr E0.id 0, .ptr R0.id 0, .arr sid sver S.length, .slice (.own qid qver) 3 (seen.map snV), i64 k, .ptr bx 0, .any, .any, .any, .any, i64 j, .any, .any, .any, .any, .any, .any, .any, .any, .any, .any, .any, .any, .any, .any, .any, .any, .any, .any, .any, .any, .any, .any, .any, .any, .any, .any, .any, .any, .any, .any, .any, .any, .any, .any, .any, .any, .any, .any, .any, .any, .any, .any, .any, .any, .any, .any, .any, .any, .any, .any, .any, .any, .any, .any, .any, .any, .any, .any, .any, .any, .any, .any, .any, .any, .any, .any, .any, .any, .any, .any, .any, .any, .any, .any, .any, .any, .any, .any, .any, .any, .any, .any, .any, .any, .any, .any, .any, .any, .any, .any, .any, .any, .any, .any, .any, .any, .any, .any, .any, .any, .any, .any, .any, .any, .any, .any, .any, .any, .any, .any, .any, .any, .any, .any, .any, .any, .any, .any, .any, .any, .any, .any, .any, .any, .any, .any, .any, .any, .any, .any, .any, .any, .any, .any, .any, .any, .any, .any, .any, .any, .any, .any, .any, .any, .any, .any, .any, .any, .any, .any, .any, .any, .any, .any, .any, .any, .any, .any, .any, .any, .any, .any, .any, .any, .any, .any, .any, .any, .any, .any, .any, .any, .any, .any, .any, .any, .any, .any, .any, .any, .any, .any, .any, .any, .any, .any, .any, .any, .any, .any, .any, .any, .any, .any, .any, .any, .any, .any, .any, .any, .any, .any, .any, .any, .any]) (n := S.length) ?_ ⟨0, L, S, by omega, by simp, hst5, rfl, fun _ _ => rfl, rfl⟩ ?_
        · repeat (first | exact leEnv_nil | refine leEnv_any _ ?_ | refine leEnv_same _ ?_ | refine leEnv_norm _ ?_)
        rintro m8 e s8 ⟨j, L1, S1, hjm, hS1, hst8, hL1, ho8, rfl⟩
        have hbd8 : s8[bx]? = some (.cells [i64 d.kind, i64 d.t, i64 d.n, i64 d.v]) := (ho8 bx (fun q => hbs bx (.inr (.inr (.inl q))) rfl)).trans hbd
        have bf8 := cells_facts hbd8
        have hS1l : S1.length = S.length := by rw [hS1]; simp; omega
        have hh8 : ∀ i, StHas sid L1 i ↔ StHas sid L i := fun i => by unfold StHas; rw [hL1]
        by_cases hj : j < S.length
        · have j1 : (j : Int) < (S.length : Int) := by omega
          have j0 : (0 : Int) ≤ (j : Int) := by omega
          have hwj := wrapS j (by omega)
          obtain ⟨r, hr0⟩ : ∃ r, S[j]? = some r := ⟨_, List.getElem?_eq_getElem hj⟩
          have hr : S1[j]? = some r := by
            rw [hS1, List.getElem?_append_right (by simp; omega)]
            simp only [List.length_map, List.length_take, Nat.min_eq_left (Nat.le_of_lt hj), Nat.sub_self, List.getElem?_drop, Nat.add_zero]
            exact hr0
          obtain ⟨p, hp⟩ : ∃ p, L1[j]? = some p := ⟨_, List.getElem?_eq_getElem (by rw [hst8.len, hS1l]; exact hj)⟩
          have hrl : r.length ≤ 4000 := by
            have := hO.opq.rows r (List.mem_of_getElem? hr0)
            have h9 : E.abs.vars.length ≤ 4000 := hE.many
            omega
          have hout := arr_facts hst8.outer
          have hip := hst8.inner j p r hp hr
          have hin := arr_facts hip
          have hdo := rows_drop hp hr
          have hpne := hst8.ne p (List.mem_of_getElem? hp)
          have happ := app_i64s (n := r.length + 1) (by omega)
          have hst9 := hst8.row hp hr d.v (p.2 + 1)
          have htk : (r.map i64).take (r.length * 1) = r.map i64 := List.take_of_length_le (by simp)
          have hout9 : (s8.set p.1 (.arr (p.2 + 1) 1 (r.map i64 ++ [i64 d.v])))[sid]? = some (.arr sver 1 (rowsSV L1 S1)) := (List.getElem?_set_ne hpne).trans hst8.outer
          have ho9 := arr_facts hout9
          simp -implicitDefEqProofs (maxSteps := 1000000) only [go_sem, reduceCtorEq, Nat.reduceAdd, Nat.reduceMul, Nat.reduceLeDiff, Nat.reduceLT, Int.reduceLE, Int.reduceLT, Int.reduceEq, Nat.reduceBEq, Nat.reduceEqDiff, j1, j0, hout.1, hout.2.1, hout.2.2.1, hout.2.2.2]
          refine awp_drawT [] [2, 2, 0, 0, 0, 0, 0, 0, 0, 3, 2, 1] (fun s => ∃ cs, s[sid]? = some (.arr sver 1 cs)) Try.mixed rfl ⟨_, hst8.outer⟩ ?_
          simp only [go_sem, reduceCtorEq, Nat.reduceAdd, Nat.reduceMul, Nat.reduceLeDiff, Nat.reduceLT, Int.reduceLE, Int.reduceLT, Int.reduceEq, Nat.reduceBEq, Nat.reduceEqDiff, drawU_n, drawU_0, drawU_1, drawU_2, drawU_3, isStore_s, j1, j0, hout.1, hout.2.1, hout.2.2.1, hout.2.2.2, hin.1, hin.2.1, hin.2.2.1, hin.2.2.2, bf8.1, bf8.2.1, bf8.2.2, hdo, rowSV, Nat.mul_one, htk, Int.toNat_natCast]
          refine ⟨.slice .full 1 [i64 d.v], ?_, .arr p.1 (p.2 + 1) (r.length + 1), s8.set p.1 (.arr (p.2 + 1) 1 (r.map i64 ++ [i64 d.v])), ?_, ⟨_, hout9⟩, ?_⟩
          · simp only [go_sem, reduceCtorEq, Nat.reduceAdd, Nat.reduceMul, Nat.reduceLeDiff, Nat.reduceLT, Int.reduceLE, Int.reduceLT, Int.reduceEq, Nat.reduceBEq, Nat.reduceEqDiff]
            exact ⟨⟨[], by simp⟩, ids_full1 _ _, .inl rfl⟩
          · simp only [go_sem, reduceCtorEq, Nat.reduceAdd, Nat.reduceMul, Nat.reduceLeDiff, Nat.reduceLT, Int.reduceLE, Int.reduceLT, Int.reduceEq, Nat.reduceBEq, Nat.reduceEqDiff, hin.1, hin.2.1, hin.2.2.1, hin.2.2.2, Nat.mul_one, htk]
            exact ⟨happ, rfl⟩
          simp only [go_sem, reduceCtorEq, Nat.reduceAdd, Nat.reduceMul, Nat.reduceLeDiff, Nat.reduceLT, Int.reduceLE, Int.reduceLT, Int.reduceEq, Nat.reduceBEq, Nat.reduceEqDiff, ho9.1, ho9.2.1, ho9.2.2.1, ho9.2.2.2, Nat.mul_one, Int.toNat_natCast, hwj]
          have hrowl : j < (rowsSV L1 S1).length := by rw [rows_len hst8.len]; omega
          have hmapL : (L1.set j (p.1, p.2 + 1)).map (·.1) = L1.map (·.1) := by
            rw [List.map_set]
            refine set_same ?_
            rw [List.getElem?_map, hp]; rfl
          have hseq : (rowsSV L1 S1).set j (rowSV (p.1, p.2 + 1) (r ++ [d.v])) = (rowsSV L1 S1).take j ++ rowSV (p.1, p.2 + 1) (r ++ [d.v]) :: (rowsSV L1 S1).drop (j + 1) := by
            rw [List.set_eq_take_append_cons_drop, if_pos hrowl]
          rw [List.map_append, hseq] at hst9
          have hpL : StHas sid L p.1 := .inr (by rw [← hL1]; exact List.mem_map.2 ⟨p, List.mem_of_getElem? hp, rfl⟩)
          refine ⟨fun s hs => ?_, by omega, ⟨_, List.getElem?_set_self (by rw [List.length_set]; exact lt_of_get hst8.outer)⟩, m8 - 1, _, by omega, ?_, j + 1, L1.set j (p.1, p.2 + 1), S1.set j (r ++ [d.v]), by omega, ?_, ?_, by rw [hmapL]; exact hL1, fun i hi => ?_, rfl⟩
          · obtain ⟨cs, hs⟩ := hs
            have fs := arr_facts hs
            simp only [go_sem, reduceCtorEq, Nat.reduceAdd, Nat.reduceMul, Nat.reduceLeDiff, Nat.reduceLT, Int.reduceLE, Int.reduceLT, Int.reduceEq, Nat.reduceBEq, Nat.reduceEqDiff, fs.1, fs.2.1, fs.2.2.1, fs.2.2.2, Nat.mul_one]
          · repeat (first | exact leEnv_nil | refine leEnv_any _ ?_ | refine leEnv_same _ ?_ | refine leEnv_norm _ ?_)
          · have hd : S.drop j = r :: S.drop (j + 1) := by
              obtain ⟨h1, h2⟩ := List.getElem?_eq_some_iff.1 hr0
              rw [List.drop_eq_getElem_cons h1, h2]
            have ht : S.take (j + 1) = S.take j ++ [r] := by
              obtain ⟨h1, h2⟩ := List.getElem?_eq_some_iff.1 hr0
              rw [List.take_succ_eq_append_getElem h1, h2]
            rw [hS1, hd, ht, List.map_append, List.set_append_right _ _ (by simp; omega)]
            simp [Nat.min_eq_left (Nat.le_of_lt hj)]
          · have e9 : rowSV (p.1, p.2 + 1) (r ++ [d.v]) = .arr p.1 (p.2 + 1) (r.length + 1) := by simp [rowSV]
            rw [e9] at hst9
            exact hst9
          · rw [List.getElem?_set_ne (fun q => hi (.inl q.symm)), List.getElem?_set_ne (fun q => hi (by rw [← q]; exact hpL))]
            exact ho8 i hi
        · obtain rfl : j = S.length := by omega
          have hout := arr_facts hst8.outer
          simp -implicitDefEqProofs (maxSteps := 1000000) only [go_sem, reduceCtorEq, Nat.reduceAdd, Nat.reduceMul, Nat.reduceLeDiff, Nat.reduceLT, Int.reduceLE, Int.reduceLT, Int.reduceEq, Nat.reduceBEq, Nat.reduceEqDiff, Int.lt_irrefl, hout.1, hout.2.1, hout.2.2.1, hout.2.2.2]
          have hS1e : S1 = S.map (· ++ [d.v]) := by rw [hS1, List.take_length, List.drop_length, List.append_nil]
          rw [← hS1e] at key
          refine ⟨S1, seen, sid, sver, L1, qid, qver, ⟨hB5.same fun i hi => ho8 i fun q => ?_, hp5, key.1, key.2, by omega, hst8, (ho8 qid hqn).trans htk5, fun i hi => hap5 i (hi.imp (hh8 i).1 fun e => e)⟩, ?_⟩
          · have := hap5 i (.inl q)
            exact hi.elim this.1 this.2
          · rw [hS1l]
            repeat (first | exact leEnv_nil | refine leEnv_any _ ?_ | refine leEnv_same _ ?_ | refine leEnv_norm _ ?_)
      have b8 : (d.kind == 8) = false := by simpa using k8
      by_cases k3 : d.kind = 3
      · have b3 : (d.kind == 3) = true := by simp [k3]
        have hq : opqF a d own puts S seen = (if a.1 = 2 then S ++ [nextS S puts] else S, if a.1 = 4 then withoutL seen d.t else seen) := by unfold opqF; rw [if_neg (by simp [z]), if_neg k07, if_neg k1, if_neg k8, if_pos k3]
        by_cases a2 : a.1 = 2
        · have c2 : (a.1 == 2) = true := by simp [a2]
          have c4 : (a.1 == 4) = false := by simp [a2]
          rw [if_pos a2, if_neg (by rw [a2]; decide)] at hq
          rw [hq] at key
          have h1 := hO.opq.len
          have h2 := hO.pl.fine.clk
          have hSl : S.length ≤ 100 := by omega
          have hla : S.length - 1 < S.length := by omega
          obtain ⟨r, hr⟩ : ∃ r, S[S.length - 1]? = some r := ⟨_, List.getElem?_eq_getElem hla⟩
          obtain ⟨p, hp⟩ : ∃ p, L[S.length - 1]? = some p := ⟨_, List.getElem?_eq_getElem (by rw [hst5.len]; exact hla)⟩
          have hrv : r.length = E.abs.vars.length := hO.opq.rows r (List.mem_of_getElem? hr)
          have hE4 : E.abs.vars.length ≤ 4000 := hE.many
          have hnx : nextS S puts = puts.foldl (fun a p => a.set p.n.toNat p.v) r := by
            unfold nextS
            rw [List.getD_eq_getElem?_getD, hr]; rfl
          have hpi := putsR_in hO.pl.fined d.t
          rw [← hputs, ← hO.pl.sim.vars] at hpi
          have hout := arr_facts hst5.outer
          have hip := hst5.inner _ p r hp hr
          have hin := arr_facts hip
          have hdo := rows_drop hp hr
          have happ := app_i64s (n := r.length) (by omega)
          have hws : IntKind.i64.wrap ((S.length : Int) - 1) = ((S.length - 1 : Nat) : Int) := by rw [IntWalk.i64_in _ (by omega)]; omega
          have hw0 : (0 : Int) ≤ ((S.length - 1 : Nat) : Int) := by omega
          have hw1 : ((S.length - 1 : Nat) : Int) < (S.length : Int) := by omega
          have htk : (r.map i64).take r.length = r.map i64 := List.take_of_length_le (by simp)
          have hone : ∀ x ∈ r.map i64, x.cells = [x] ∧ elemOk x = true := fun x hx => by
            obtain ⟨n, _, rfl⟩ := List.mem_map.1 hx
            exact ⟨rfl, rfl⟩
          have hx9' : ∃ m9 z9, x9 = .slice m9 z9 (puts.map pwV) ∧ (puts = [] ∨ z9 = 3) := by
            rcases hx9 with e | ⟨e, e'⟩
            · exact ⟨_, _, e, .inr rfl⟩
            · exact ⟨_, _, by rw [e, e']; rfl, .inl e⟩
          obtain ⟨m9, z9, rfl, hz9⟩ := hx9'
          refine awp_c (M := [1000134]) ?_
          simp -implicitDefEqProofs (maxSteps := 1000000) only [go_sem, reduceCtorEq, Nat.reduceAdd, Nat.reduceMul, Nat.reduceLeDiff, Nat.reduceLT, Int.reduceLE, Int.reduceLT, Int.reduceEq, Nat.reduceBEq, Nat.reduceEqDiff, bf.1, bf.2.1, bf.2.2, ba'.1, ba'.2.1, ba'.2.2, b0, b7, b1, b8, b3, c2, hout.1, hout.2.1, hout.2.2.1, hout.2.2.2, hws, hw0, hw1, hdo, rowSV, hin.1, hin.2.1, hin.2.2.1, hin.2.2.2, Nat.mul_one, htk, Int.toNat_natCast]
          refine ⟨hone, happ, ?_⟩
          obtain ⟨nx, hnxd⟩ : ∃ nx : Nat → List Int, ∀ j, nx j = (puts.take j).foldl (fun a p => a.set p.n.toNat p.v) r := ⟨_, fun _ => rfl⟩
          have hnl : ∀ j, (nx j).length = r.length := fun j => by rw [hnxd]; exact foldl_len _ _
          have hn0 : nx 0 = r := by rw [hnxd]; rfl
          have hne : nx puts.length = nextS S puts := by rw [hnxd, List.take_length, hnx]
          refine awp_rounds [] (fun m e s8 => ∃ j : Nat, j + m = puts.length ∧ s8 = s6 ++ [.arr 1 1 ((nx j).map i64)] ∧
            e = [.slice .imm 4 (l.map ddSV), .any, .any, .ptr E0.id 0, .ptr R0.id 0, .arr sid sver S.length, .slice (.own qid qver) 3 (seen.map snV), i64 k, .ptr bx 0, .slice m9 z9 (puts.map pwV), .any, .ptr ba 0, .any, .any, .arr s6.length 1 r.length, i64 j, .any, .any, .any, .any, .any, .any, .any, .any, .any, .any, .any, .any, .any, .any, .any, .any, .any, .any, .any, .any, .any, .any, .any, .any, .any, .any, .any, .any, .any, .any, .any, .any, .any, .any, .any, .any, .any, .any, .any, .any, .any, .any, .any, .any, .any, .any, .any, .any, .any, .any, .any, .any, .any, .any, .any, .any, .any, .any, .any, .any, .any, .any, .any, .any, .any, .any, .any, .any, .any, .any, .any, .any, .any, .any, .any, .any, .any, .any, .any, .any, .any, .any, .any, .any, .any, .any, .any, .any, .any, .any, .any, .any, .any, .any, .any, .any, .any, .any, .any, .any, .any, .any, .any, .any, .any, .any, .any, .any, .any, .any, .any, .any, .any, .any, .any, .any, .any, .any, .any, .any, .any, .any, .any, .any, .any, .any, .any, .any, .any, .any, .any, .any, .any, .any, .any, .any, .any, .any, .any, .any, .any, .any, .any, .any, .any, .any, .any, .any, .any, .any, .any, .any, .any, .any, .any, .any, .any, .any, .any, .any, .any, .any, .any, .any, .any, .any, .any, .any, .any, .any, .any, .any, .any, .any, .any, .any, .any, .any, .any, .any, .any, .any, .any, .any, .any, .any, .any, .any, .any, .any, .any, .any, .any, .any, .any, .any, .any, .any, .any, .any, .any, .any, .any]) (n := puts.length) ?_ ⟨0, by omega, by rw [hn0], rfl⟩ ?_
          · repeat (first | exact leEnv_nil | refine leEnv_any _ ?_ | refine leEnv_same _ ?_ | refine leEnv_norm _ ?_)
          rintro m8 e s8 ⟨j, hjm, hs8, rfl⟩
          have hna : s8[s6.length]? = some (.arr 1 1 ((nx j).map i64)) := by rw [hs8]; simp
          have hnf := arr_facts hna
          by_cases hj : j < puts.length
          · have j1 : (j : Int) < (puts.length : Int) := by omega
            have j0 : (0 : Int) ≤ (j : Int) := by omega
            have hwj := wrapS j (by omega)
            obtain ⟨q, hqd⟩ : ∃ q, q = puts.getD j default := ⟨_, rfl⟩
            have hqm : q ∈ puts := by rw [hqd]; simp [List.getD_eq_getElem?_getD, hj]
            have hgq : (puts.map pwV).getD j .any = .agg [i64 q.n, i64 q.v, i64 q.part] := by rw [hqd]; simp [List.getD_eq_getElem?_getD, hj, pwV]
            obtain ⟨g1, g2⟩ := hpi.1 q hqm
            have g3 : q.n < (r.length : Int) := by omega
            have hsucc : nx (j + 1) = (nx j).set q.n.toNat q.v := by
              rw [hnxd, hnxd, List.take_succ_eq_append_getElem hj, List.foldl_append, hqd]
              simp [List.getD_eq_getElem?_getD, hj]
            have hnn : q.n.toNat < (nx j).length := by rw [hnl]; omega
            have hset : ((nx j).map i64).take q.n.toNat ++ i64 q.v :: ((nx j).map i64).drop (q.n.toNat + 1) = (nx (j + 1)).map i64 := by
              rw [hsucc, List.map_set, List.set_eq_take_append_cons_drop, if_pos (by simpa using hnn)]
            simp -implicitDefEqProofs (maxSteps := 1000000) only [go_sem, reduceCtorEq, Nat.reduceAdd, Nat.reduceMul, Nat.reduceLeDiff, Nat.reduceLT, Int.reduceLE, Int.reduceLT, Int.reduceEq, Nat.reduceBEq, Nat.reduceEqDiff, j1, j0, hgq, g1, g3, hnf.1, hnf.2.1, hnf.2.2.1, hnf.2.2.2, Nat.mul_one, hwj, Int.toNat_natCast]
            have hz : z9 = 3 := hz9.resolve_left fun e => by rw [e] at hj; exact absurd hj (Nat.not_lt_zero _)
            refine ⟨by rw [hz], by rw [hz], by omega, m8 - 1, _, by omega, ?_, j + 1, by omega, ?_, rfl⟩
            · repeat (first | exact leEnv_nil | refine leEnv_any _ ?_ | refine leEnv_same _ ?_ | refine leEnv_norm _ ?_)
            · rw [← hset, hs8, List.set_append_right _ _ (Nat.le_refl _), Nat.sub_self]; rfl
          · obtain rfl : j = puts.length := by omega
            rw [hne] at hna hs8
            have hst8 : StAt s8 sid sver L S := by rw [hs8]; exact hst5.app _
            have hou8 := arr_facts hst8.outer
            have hapr := app_rows (n := S.length + 1) (by omega)
            have htr : (rowsSV L S).take S.length = rowsSV L S := List.take_of_length_le (by rw [rows_len hst5.len]; exact Nat.le_refl _)
            obtain ⟨s9, hs9⟩ : ∃ s9, s9 = s8.set sid (.arr (sver + 1) 1 (rowsSV L S ++ [.arr s6.length 1 r.length])) := ⟨_, rfl⟩
            have hse9 : s8.set sid (.arr (sver + 1) 1 (rowsSV L S ++ List.flatMap SV.cells [.arr s6.length 1 r.length])) = s9 := hs9.symm
            have hls : sid < s6.length := lt_of_get hst5.outer
            have hns6 : s6.length ≠ sid := by omega
            have hold : ∀ i, i < s6.length → i ≠ sid → s9[i]? = s6[i]? := fun i q1 q2 => by
              rw [hs9, List.getElem?_set_ne (Ne.symm q2), hs8, List.getElem?_append_left q1]
            have hbne : ba ≠ sid := fun q => by rw [q, hst5.outer] at hba; cases hba
            have hba9 := cells_facts ((hold ba (lt_of_get hba) hbne).trans hba)
            have hrn : rowSV (s6.length, 1) (nextS S puts) = .arr s6.length 1 r.length := by unfold rowSV; rw [← hne, hnl]
            have hst9 : StAt s9 sid (sver + 1) (L ++ [(s6.length, 1)]) (S ++ [nextS S puts]) :=
              hst5.push (Nat.le_refl _) (by rw [hs9, List.getElem?_set_ne (Ne.symm hns6)]; exact hna) (by rw [hs9, hrn]; exact List.getElem?_set_self (lt_of_get hst8.outer)) hold
            simp -implicitDefEqProofs (maxSteps := 1000000) only [go_sem, reduceCtorEq, Nat.reduceAdd, Nat.reduceMul, Nat.reduceLeDiff, Nat.reduceLT, Int.reduceLE, Int.reduceLT, Int.reduceEq, Nat.reduceBEq, Nat.reduceEqDiff, Int.lt_irrefl, hou8.1, hou8.2.1, hou8.2.2.1, hou8.2.2.2, Nat.mul_one, htr, hse9, hba9.1, hba9.2.1, hba9.2.2, c4]
            have hqs : qid ≠ sid := fun q => hqn (.inl q)
            refine ⟨hapr, S ++ [nextS S puts], seen, sid, sver + 1, L ++ [(s6.length, 1)], qid, qver, ⟨hB5.same fun i hi => ?_, hp5, key.1, key.2, by omega, hst9, (hold qid (lt_of_get htk5) hqs).trans htk5, fun i hi => ?_⟩, ?_⟩
            · refine hold i (hi.elim hB5.eng.has_lt hB5.ref.has_lt) fun q => ?_
              have := hap5 sid (.inl (.inl rfl))
              rw [q] at hi
              exact hi.elim this.1 this.2
            · rcases hi with (q | q) | q
              · exact hap5 i (.inl (.inl q))
              · rw [List.map_append] at q
                rcases List.mem_append.1 q with q | q
                · exact hap5 i (.inl (.inr q))
                · simp only [List.map_cons, List.map_nil, List.mem_singleton] at q
                  exact ⟨fun w => by have := hB5.eng.has_lt w; omega, fun w => by have := hB5.ref.has_lt w; omega⟩
              · exact hap5 i (.inr q)
            · rw [List.length_append, List.length_singleton]
              repeat (first | exact leEnv_nil | refine leEnv_any _ ?_ | refine leEnv_same _ ?_ | refine leEnv_norm _ ?_)
        · have c2 : (a.1 == 2) = false := by simpa using a2
          rw [if_neg a2] at hq
          refine awp_c (M := []) ?_
          by_cases a4 : a.1 = 4
          · have c4 : (a.1 == 4) = true := by simpa using a4
            rw [if_pos a4] at hq
            simp -implicitDefEqProofs (maxSteps := 1000000) only [go_sem, reduceCtorEq, Nat.reduceAdd, Nat.reduceMul, Nat.reduceLeDiff, Nat.reduceLT, Int.reduceLE, Int.reduceLT, Int.reduceEq, Nat.reduceBEq, Nat.reduceEqDiff, bf.1, bf.2.1, bf.2.2, ba'.1, ba'.2.1, ba'.2.2, b0, b7, b1, b8, b3, c2, c4]
            refine hwo _ fun ver => ?_
            simp -implicitDefEqProofs (maxSteps := 1000000) only [go_sem, reduceCtorEq, Nat.reduceAdd, Nat.reduceMul, Nat.reduceLeDiff, Nat.reduceLT, Int.reduceLE, Int.reduceLT, Int.reduceEq, Nat.reduceBEq, Nat.reduceEqDiff]
            refine ⟨S, _, sid, sver, L, s6.length, ver, wo ver hq, ?_⟩
            repeat (first | exact leEnv_nil | refine leEnv_any _ ?_ | refine leEnv_same _ ?_ | refine leEnv_norm _ ?_)
          · have c4 : (a.1 == 4) = false := by simpa using a4
            rw [if_neg a4] at hq
            simp -implicitDefEqProofs (maxSteps := 1000000) only [go_sem, reduceCtorEq, Nat.reduceAdd, Nat.reduceMul, Nat.reduceLeDiff, Nat.reduceLT, Int.reduceLE, Int.reduceLT, Int.reduceEq, Nat.reduceBEq, Nat.reduceEqDiff, bf.1, bf.2.1, bf.2.2, ba'.1, ba'.2.1, ba'.2.2, b0, b7, b1, b8, b3, c2, c4]
            refine ⟨S, seen, sid, sver, L, qid, qver, same hq, ?_⟩
            repeat (first | exact leEnv_nil | refine leEnv_any _ ?_ | refine leEnv_same _ ?_ | refine leEnv_norm _ ?_)
      have b3 : (d.kind == 3) = false := by simpa using k3
      have hq : opqF a d own puts S seen = (S, seen) := by unfold opqF; rw [if_neg (by simp [z]), if_neg k07, if_neg k1, if_neg k8, if_neg k3]
      refine awp_c (M := []) ?_
      simp -implicitDefEqProofs (maxSteps := 1000000) only [go_sem, reduceCtorEq, Nat.reduceAdd, Nat.reduceMul, Nat.reduceLeDiff, Nat.reduceLT, Int.reduceLE, Int.reduceLT, Int.reduceEq, Nat.reduceBEq, Nat.reduceEqDiff, bf.1, bf.2.1, bf.2.2, b0, b7, b1, b8, b3]
      refine ⟨S, seen, sid, sver, L, qid, qver, same hq, ?_⟩
      repeat (first | exact leEnv_nil | refine leEnv_any _ ?_ | refine leEnv_same _ ?_ | refine leEnv_norm _ ?_)
    rintro e env s7 ⟨rfl, S2, seen2, sid2, sver2, L2, qid2, qver2, hO2, hle⟩
    refine awp_weaken hle ?_
    clear hle
    -- what has been seen is so still
    refine awp_seq (awp_c (M := []) ?_)
    simp -implicitDefEqProofs (maxSteps := 1000000) only [go_sem, reduceCtorEq, Nat.reduceAdd, Nat.reduceMul, Nat.reduceLeDiff, Nat.reduceLT, Int.reduceLE, Int.reduceLT, Int.reduceEq, Nat.reduceBEq, Nat.reduceEqDiff]
    refine AWp.mono (Q := fun e env s8 => e = .normal ∧ s8 = s7 ∧ LeEnv env [.slice .imm 4 (l.map ddSV), .any, .any, .ptr E0.id 0, .ptr R0.id 0, .arr sid2 sver2 S2.length, .slice (.own qid2 qver2) 3 (seen2.map snV), i64 k, .any, .any, .any, .any, .any, .any, .any, .any, .any, .any, .any, .any, .any, .any, .any, .any, .any, .any, .any, .any, .any, .any, .any, .any, .any, .any, .any, .any, .any, .any, .any, .any, .any, .any, .any, .any, .any, .any, .any, .any, .any, .any, .any, .any, .any, .any, .any, .any, .any, .any, .any, .any, .any, .any, .any, .any, .any, .any, .any, .any, .any, .any, .any, .any, .any, .any, .any, .any, .any, .any, .any, .any, .any, .any, .any, .any, .any, .any, .any, .any, .any, .any, .any, .any, .any, .any, .any, .any, .any, .any, .any, .any, .any, .any, .any, .any, .any, .any, .any, .any, .any, .any, .any, .any, .any, .any, .any, .any, .any, .any, .any, .any, .any, .any, .any, .any, .any, .any, .any, .any, .any, .any, .any, .any, .any, .any, .any, .any, .any, .any, .any, .any, .any, .any, .any, .any, .any, .any, .any, .any, .any, .any, .any, .any, .any, .any, .any, .any, .any, .any, .any, .any, .any, .any, .any, .any, .any, .any, .any, .any, .any, .any, .any, .any, .any, .any, .any, .any, .any, .any, .any, .any, .any, .any, .any, .any, .any, .any, .any, .any, .any, .any, .any, .any, .any, .any, .any, .any, .any, .any, .any, .any, .any, .any, .any, .any, .any, .any, .any, .any, .any, .any, .any, .any, .any, .any, .any, .any, .any, .any, .any]) ?_ ?_
    rotate_left
    · rintro e env s8 ⟨rfl, rfl, hle⟩
      exact ⟨rfl, E2, R2, S2, seen2, sid2, sver2, L2, qid2, qver2, e2, r2, hO2, hle⟩
    refine awp_block ?_
    refine awp_rounds [] (fun m e s8 => ∃ j : Nat, j + m = seen2.length ∧ e = [.slice .imm 4 (l.map ddSV), .any, .any, .ptr E0.id 0, .ptr R0.id 0, .arr sid2 sver2 S2.length, .slice (.own qid2 qver2) 3 (seen2.map snV), i64 k, .any, .any, .any, .any, .any, .any, .any, .any, .any, i64 j, .any, .any, .any, .any, .any, .any, .any, .any, .any, .any, .any, .any, .any, .any, .any, .any, .any, .any, .any, .any, .any, .any, .any, .any, .any, .any, .any, .any, .any, .any, .any, .any, .any, .any, .any, .any, .any, .any, .any, .any, .any, .any, .any, .any, .any, .any, .any, .any, .any, .any, .any, .any, .any, .any, .any, .any, .any, .any, .any, .any, .any, .any, .any, .any, .any, .any, .any, .any, .any, .any, .any, .any, .any, .any, .any, .any, .any, .any, .any, .any, .any, .any, .any, .any, .any, .any, .any, .any, .any, .any, .any, .any, .any, .any, .any, .any, .any, .any, .any, .any, .any, .any, .any, .any, .any, .any, .any, .any, .any, .any, .any, .any, .any, .any, .any, .any, .any, .any, .any, .any, .any, .any, .any, .any, .any, .any, .any, .any, .any, .any, .any, .any, .any, .any, .any, .any, .any, .any, .any, .any, .any, .any, .any, .any, .any, .any, .any, .any, .any, .any, .any, .any, .any, .any, .any, .any, .any, .any, .any, .any, .any, .any, .any, .any, .any, .any, .any, .any, .any, .any, .any, .any, .any, .any, .any, .any, .any, .any, .any, .any, .any, .any, .any, .any, .any, .any, .any, .any, .any, .any, .any, .any, .any, .any, .any, .any, .any, .any, .any, .any, .any] ∧ s8 = s7) (n := seen2.length) ?_ ⟨0, by omega, rfl, rfl⟩ ?_
    · repeat (first | exact leEnv_nil | refine leEnv_any _ ?_ | refine leEnv_same _ ?_ | refine leEnv_norm _ ?_)
    have hns2 := hO2.nseen
    rintro m2 e s8 ⟨j, hjm, rfl, rfl⟩
    by_cases hj : j < seen2.length
    · have j1 : (j : Int) < (seen2.length : Int) := by omega
      have j0 : (0 : Int) ≤ (j : Int) := by omega
      have hwj := wrapS j (by omega)
      obtain ⟨q, hq⟩ : ∃ q, q = seen2.getD j default := ⟨_, rfl⟩
      have hqm : q ∈ seen2 := by rw [hq]; simp [List.getD_eq_getElem?_getD, hj]
      have hgq : (seen2.map snV).getD j .any = .agg [i64 q.t, i64 q.n, i64 q.v] := by rw [hq]; simp [List.getD_eq_getElem?_getD, hj, snV]
      obtain ⟨t1, t2, t3, t4, x, t5, t6⟩ := hO2.sn.all q hqm
      have hof : E2.abs.of q.t = some x := by unfold EP.of; rw [if_pos ⟨t1, t2⟩, t5]; rfl
      have hstx := hO2.opq.start _ x t5
      have hlen := hO2.opq.len
      have hcs := start_c hO2.both.eng q.t
      have hab := abs_of E2 q.t
      rw [hof] at hab
      obtain ⟨X, hX, hXx⟩ : ∃ X, E2.of q.t = some X ∧ X.start = x.start := by
        cases ho : E2.of q.t with
        | none => rw [ho] at hab; cases hab
        | some X => rw [ho] at hab; cases hab; exact ⟨X, rfl, rfl⟩
      rw [hX, e2] at hcs
      have hcs : ∀ K : SV → St → Prop, K (i64 x.start) s8 → ACalls Try.prog 28 [.ptr E0.id 0, i64 q.t] K s8 := by rw [← hXx]; exact hcs
      have hsl : x.start.toNat < S2.length := by omega
      have hLl : x.start.toNat < L2.length := by rw [hO2.st.len]; exact hsl
      obtain ⟨r, hr⟩ : ∃ r, S2[x.start.toNat]? = some r := ⟨_, List.getElem?_eq_getElem hsl⟩
      obtain ⟨p, hp⟩ : ∃ p, L2[x.start.toNat]? = some p := ⟨_, List.getElem?_eq_getElem hLl⟩
      have hrl := hO2.opq.rows r (List.mem_of_getElem? hr)
      have hvl : E2.abs.vars.length ≤ 4000 := hO2.both.eng.many
      have hout := arr_facts hO2.st.outer
      have hin := arr_facts (hO2.st.inner _ _ _ hp hr)
      have hdo := rows_drop hp hr
      have hnr : q.n.toNat < r.length := by omega
      have hdr : (r.map i64).drop q.n.toNat = i64 q.v :: (r.map i64).drop (q.n.toNat + 1) := by
        rw [want_drop2 hnr]
        unfold stG at t6
        have h8 : S2.getD x.start.toNat [] = r := by rw [List.getD_eq_getElem?_getD, hr]; rfl
        rw [h8] at t6
        rw [t6]
      have b1 : (x.start < 0) = False := eq_false (by omega)
      have b2 : ((S2.length : Int) ≤ x.start) = False := eq_false (by omega)
      have b3 : ((r.length : Int) ≤ q.n) = False := eq_false (by omega)
      have b4 : x.start < (S2.length : Int) := by omega
      have b5 : q.n < (r.length : Int) := by omega
      have b6 : (q.v != q.v) = false := by simp
      simp -implicitDefEqProofs (maxSteps := 1000000) only [go_sem, reduceCtorEq, Nat.reduceAdd, Nat.reduceMul, Nat.reduceLeDiff, Nat.reduceLT, Int.reduceLE, Int.reduceLT, Int.reduceEq, Nat.reduceBEq, Nat.reduceEqDiff, j1, j0, hgq, Int.toNat_natCast]
      refine hcs _ ?_
      simp -implicitDefEqProofs (maxSteps := 1000000) only [go_sem, reduceCtorEq, Nat.reduceAdd, Nat.reduceMul, Nat.reduceLeDiff, Nat.reduceLT, Int.reduceLE, Int.reduceLT, Int.reduceEq, Nat.reduceBEq, Nat.reduceEqDiff, j1, j0, hgq, Int.toNat_natCast]
      refine awp_draw [] Try.mixed rfl ?_
      simp -implicitDefEqProofs (maxSteps := 1000000) only [go_sem, reduceCtorEq, Nat.reduceAdd, Nat.reduceMul, Nat.reduceLeDiff, Nat.reduceLT, Int.reduceLE, Int.reduceLT, Int.reduceEq, Nat.reduceBEq, Nat.reduceEqDiff, j1, j0, hgq, Int.toNat_natCast, b1, b2, b3, b4, b5, b6, hstx.1, t3, hout.1, hout.2.1, hout.2.2.1, hout.2.2.2, hin.1, hin.2.1, hin.2.2.1, hin.2.2.2, hdo, rowSV, Nat.mul_one, hdr, hwj]
      refine ⟨m2 - 1, _, by omega, ?_, j + 1, by omega, rfl⟩
      repeat (first | exact leEnv_nil | refine leEnv_any _ ?_ | refine leEnv_same _ ?_ | refine leEnv_norm _ ?_)
    · obtain rfl : j = seen2.length := by omega
      simp -implicitDefEqProofs (maxSteps := 1000000) only [go_sem, reduceCtorEq, Nat.reduceAdd, Nat.reduceMul, Nat.reduceLeDiff, Nat.reduceLT, Int.reduceLE, Int.reduceLT, Int.reduceEq, Nat.reduceBEq, Nat.reduceEqDiff, Int.lt_irrefl]
      repeat (first | exact leEnv_nil | refine leEnv_any _ ?_ | refine leEnv_same _ ?_ | refine leEnv_norm _ ?_)
  · refine awp_seq (AWp.mono (Q := fun e env s' => e = .exit 0 ∧ LeEnv env [.any, .any, .any, .any, .any, .any, .any, .any, .any, .any, .any, .any, .any, .any, .any, .any, .any, .any, .any, .any, .any, .any, .any, .any, .any, .any, .any, .any, .any, .any, .any, .any, .any, .any, .any, .any, .any, .any, .any, .any, .any, .any, .any, .any, .any, .any, .any, .any, .any, .any, .any, .any, .any, .any, .any, .any, .any, .any, .any, .any, .any, .any, .any, .any, .any, .any, .any, .any, .any, .any, .any, .any, .any, .any, .any, .any, .any, .any, .any, .any, .any, .any, .any, .any, .any, .any, .any, .any, .any, .any, .any, .any, .any, .any, .any, .any, .any, .any, .any, .any, .any, .any, .any, .any, .any, .any, .any, .any, .any, .any, .any, .any, .any, .any, .any, .any, .any, .any, .any, .any, .any, .any, .any, .any, .any, .any, .any, .any, .any, .any, .any, .any, .any, .any, .any, .any, .any, .any, .any, .any, .any, .any, .any, .any, .any, .any, .any, .any, .any, .any, .any, .any, .any, .any, .any, .any, .any, .any, .any, .any, .any, .any, .any, .any, .any, .any, .any, .any, .any, .any, .any, .any, .any, .any, .any, .any, .any, .any, .any, .any, .any, .any, .any, .any, .any, .any, .any, .any, .any, .any, .any, .any, .any, .any, .any, .any, .any, .any, .any, .any, .any, .any, .any, .any, .any, .any, .any, .any, .any, .any, .any, .any, .any, .any, .any, .any, .any, .any, .any]) ?_ ?_)
    · refine awp_c (M := []) ?_
      by_cases c1 : (k : Int) < (l.length : Int)
      · have c2 : ¬ (k : Int) < 60 := fun q => c ⟨by omega, by omega⟩
        simp -implicitDefEqProofs (maxSteps := 1000000) only [go_sem, reduceCtorEq, Nat.reduceAdd, Nat.reduceMul, Nat.reduceLeDiff, Nat.reduceLT, Int.reduceLE, Int.reduceLT, Int.reduceEq, Nat.reduceBEq, Nat.reduceEqDiff, c1, c2]
        repeat (first | exact leEnv_nil | refine leEnv_any _ ?_ | refine leEnv_same _ ?_ | refine leEnv_norm _ ?_)
      · simp -implicitDefEqProofs (maxSteps := 1000000) only [go_sem, reduceCtorEq, Nat.reduceAdd, Nat.reduceMul, Nat.reduceLeDiff, Nat.reduceLT, Int.reduceLE, Int.reduceLT, Int.reduceEq, Nat.reduceBEq, Nat.reduceEqDiff, c1]
        repeat (first | exact leEnv_nil | refine leEnv_any _ ?_ | refine leEnv_same _ ?_ | refine leEnv_norm _ ?_)
    · rintro e env s' ⟨rfl, hle⟩
      exact ⟨rfl, hle⟩

end Go.Proofs
