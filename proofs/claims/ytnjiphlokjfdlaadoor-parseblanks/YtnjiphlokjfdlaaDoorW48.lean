/- The document's lexer: numbers. -/
import Derived.Test.YtnjiphlokjfdlaaDoorW45
import Derived.Test.YtnjiphlokjfdlaaDoorW46
set_option linter.unusedSimpArgs false
set_option linter.unusedVariables false
set_option maxRecDepth 8000
namespace Go.AL
/-- What token answers. -/
def tokK (R : Except Int (Tk × Nat)) (K : SV → St → Prop) (st : St) : Prop := match R with
  | .ok (t, n) => K (.tuple [tkSV t, .sc (.int .i64 n), .sc (.int .i64 0)]) st
  | .error e => ∀ (x : Tk) (n : Int), K (.tuple [tkSV x, .sc (.int .i64 n), .sc (.int .i64 e)]) st
end Go.AL
namespace Go.Proofs
open Go Go.AL
theorem ids_tk3 (n : Nat) (t : Tk) (a e : Value) : Ids n (norm (oneOf [tkSV t, .sc a, .sc e])) = True := eq_true (.tuple _ (by
  intro i hi
  match i with
  | 0 => show Ids n (tkSV t); rw [ids_tk]; trivial
  | 1 => exact .sc _
  | 2 => exact .sc _
  | i + 3 => simp [norm] at hi; omega))
theorem spanN_at {p : UInt8 → Bool} {s : Tx} {i : Nat} (h : i + spanN p (s.drop i) = spanN p s) (hl : i < s.length) (hp : p s[i] = true) : i + 1 + spanN p (s.drop (i + 1)) = spanN p s := by
  rw [drop_at hl, spanN_t hp] at h; omega
theorem spanN_end {p : UInt8 → Bool} {s : Tx} {i : Nat} (h : i + spanN p (s.drop i) = spanN p s) (hp : ∀ hl : i < s.length, p s[i] = false) : i = spanN p s := by
  by_cases hl : i < s.length
  · rw [drop_at hl, spanN_f (hp hl)] at h; omega
  · rw [List.drop_of_length_le (by omega)] at h; exact h
set_option maxHeartbeats 4000000 in
theorem rnum_c {s : Tx} (hs : s.length ≤ 100000) (h0 : 0 < s.length) (hd : digitB s[0] = true) {K : SV → St → Prop} {st : St} (hk : tokK (tokF s 0) K st) : ACalls Tryd.prog 18 [.sc (.string (ba s))] K st := by
  refine acalls_go_pure [] Tryd.func18 rfl Tryd.results18 Tryd.ntmps18 ?_
  have hz : 1 + spanN digitB (s.drop 1) = spanN digitB s := spanN_at (i := 0) (by simp) h0 hd
  have hg0 := ba_get h0
  have hle := span_le digitB s
  obtain ⟨z, hzz⟩ : ∃ z, z = spanN digitB s := ⟨_, rfl⟩
  simp only [go_sem, reduceCtorEq, Nat.reduceAdd, Nat.reduceMul, Nat.reduceLeDiff, Nat.reduceLT, Int.reduceLE, Int.reduceLT, Int.reduceEq, Nat.reduceBEq, Nat.reduceEqDiff, ba_size, hg0]
  refine ⟨by omega, ?_⟩
  refine rdigit_c ?_
  simp only [go_sem, reduceCtorEq, Nat.reduceAdd, Nat.reduceMul, Nat.reduceLeDiff, Nat.reduceLT, Int.reduceLE, Int.reduceLT, Int.reduceEq, Nat.reduceBEq, Nat.reduceEqDiff, hd]
  refine AWp.mono (Q := fun e env s' => e = .exit 0 ∧ (∃ x1 x2 x3 x4 x5 x6 x7 x8 x9 x10, env = [.sc (.string (ba s)), .any, .ptr st.length 0, .any, .any, .any, .sc (.int .i64 z), .any, .any, .any, .any, .any, .any, .any, .any, .any, .any, .any, x1, x2, x3, x4, x5, x6, x7, x8, x9, x10, .any, .any, .any, .any, .any, .any, .any, .any, .any, .any, .any, .any, .any, .any, .any, .any, .any, .any, .any, .any, .any, .any, .any, .any, .any, .any, .any, .any, .any, .any, .any, .any, .any, .any, .any, .any, .any, .any, .any, .any, .any, .any, .any, .any, .any, .any, .any, .any, .any, .any, .any, .any, .any, .any, .any, .any, .any, .any, .any, .any, .any, .any, .any, .any, .any, .any, .any, .any, .any, .any, .any, .any, .any, .any, .any, .any, .any, .any, .any, .any, .any, .any, .any, .any, .any, .any, .any, .any, .any, .any, .any, .any, .any, .any, .any, .any, .any, .any, .any, .any, .any, .any, .any, .any, .any, .any, .any, .any, .any]) ∧ s' = st ++ [zTk]) ?_ ?_
  · refine awp_rounds [] (fun m env s' => ∃ i : Nat, m + i = s.length ∧ i + spanN digitB (s.drop i) = spanN digitB s ∧ env = [.sc (.string (ba s)), .any, .ptr st.length 0, .any, .any, .any, .sc (.int .i64 i), .any, .any, .any, .any, .any, .any, .any, .any, .any, .any, .any, .any, .any, .any, .any, .any, .any, .any, .any, .any, .any, .any, .any, .any, .any, .any, .any, .any, .any, .any, .any, .any, .any, .any, .any, .any, .any, .any, .any, .any, .any, .any, .any, .any, .any, .any, .any, .any, .any, .any, .any, .any, .any, .any, .any, .any, .any, .any, .any, .any, .any, .any, .any, .any, .any, .any, .any, .any, .any, .any, .any, .any, .any, .any, .any, .any, .any, .any, .any, .any, .any, .any, .any, .any, .any, .any, .any, .any, .any, .any, .any, .any, .any, .any, .any, .any, .any, .any, .any, .any, .any, .any, .any, .any, .any, .any, .any, .any, .any, .any, .any, .any, .any, .any, .any, .any, .any, .any, .any, .any, .any, .any, .any, .any, .any, .any, .any, .any, .any, .any] ∧ s' = st ++ [zTk]) (n := s.length - 1) ?_ ⟨1, by omega, hz, rfl, rfl⟩ ?_
    · repeat (first | exact leEnv_nil | refine leEnv_any _ ?_ | refine leEnv_same _ ?_ | refine leEnv_norm _ ?_)
    rintro m env s' ⟨i, hm, hi, rfl, rfl⟩
    have w1 : IntKind.i64.wrap ((i : Int) + 1) = ((i + 1 : Nat) : Int) := by rw [IntWalk.i64_in _ (by omega)]; rfl
    by_cases hl : i < s.length
    · have c1 : decide ((i : Int) < (s.length : Int)) = true := by simp; omega
      have hgi := ba_get hl
      cases hdi : digitB s[i] with
      | true =>
        simp only [go_sem, reduceCtorEq, Nat.reduceAdd, Nat.reduceMul, Nat.reduceLeDiff, Nat.reduceLT, Int.reduceLE, Int.reduceLT, Int.reduceEq, Nat.reduceBEq, Nat.reduceEqDiff, ba_size, c1, hgi]
        refine ⟨by omega, ?_⟩
        refine rdigit_c ?_
        simp only [go_sem, reduceCtorEq, Nat.reduceAdd, Nat.reduceMul, Nat.reduceLeDiff, Nat.reduceLT, Int.reduceLE, Int.reduceLT, Int.reduceEq, Nat.reduceBEq, Nat.reduceEqDiff, ba_size, hgi, hdi, c1, w1]
        refine ⟨m - 1, _, by omega, ?_, i + 1, by omega, spanN_at hi hl hdi, rfl⟩
        repeat (first | exact leEnv_nil | refine leEnv_any _ ?_ | refine leEnv_same _ ?_ | refine leEnv_norm _ ?_)
      | false =>
        have := spanN_end hi (fun _ => hdi)
        simp only [go_sem, reduceCtorEq, Nat.reduceAdd, Nat.reduceMul, Nat.reduceLeDiff, Nat.reduceLT, Int.reduceLE, Int.reduceLT, Int.reduceEq, Nat.reduceBEq, Nat.reduceEqDiff, ba_size, c1, hgi]
        refine ⟨by omega, ?_⟩
        refine rdigit_c ?_
        simp only [go_sem, reduceCtorEq, Nat.reduceAdd, Nat.reduceMul, Nat.reduceLeDiff, Nat.reduceLT, Int.reduceLE, Int.reduceLT, Int.reduceEq, Nat.reduceBEq, Nat.reduceEqDiff, ba_size, hgi, hdi, c1, w1]
        obtain rfl : i = z := by omega
        exact ⟨_, _, _, _, _, _, _, _, _, _, rfl⟩
    · have c1 : decide ((i : Int) < (s.length : Int)) = false := by simp; omega
      have := spanN_end hi (fun h => absurd h hl)
      simp only [go_sem, reduceCtorEq, Nat.reduceAdd, Nat.reduceMul, Nat.reduceLeDiff, Nat.reduceLT, Int.reduceLE, Int.reduceLT, Int.reduceEq, Nat.reduceBEq, Nat.reduceEqDiff, ba_size, c1]
      obtain rfl : i = z := by omega
      exact ⟨_, _, _, _, _, _, _, _, _, _, rfl⟩
  · rintro e env s' ⟨rfl, ⟨x1, x2, x3, x4, x5, x6, x7, x8, x9, x10, rfl⟩, rfl⟩
    simp only [go_sem, reduceCtorEq, Nat.reduceAdd, Nat.reduceMul, Nat.reduceLeDiff, Nat.reduceLT, Int.reduceLE, Int.reduceLT, Int.reduceEq, Nat.reduceBEq, Nat.reduceEqDiff]
    have hall : ∀ (i : Nat) (h : i < z), ∃ h2 : i < s.length, digitB s[i] = true := fun i h => by
      have h2 : i < s.length := by omega
      refine ⟨h2, ?_⟩
      have hm : s[i] ∈ s.take (spanN digitB s) := by
        rw [List.mem_take_iff_getElem]
        exact ⟨i, by omega, rfl⟩
      exact span_mem _ hm
    have hv : tokF s 0 = if 4611686018427387903 < valF (s.take z) then .error 13 else .ok (⟨1, [], valF (s.take z), 0⟩, z) := by
      rw [hzz]
      cases s with
      | nil => simp at h0
      | cons c r =>
        have hd' : digitB c = true := hd
        unfold tokF; dsimp only; rw [if_pos hd']
    rw [hv] at hk
    refine awp_rounds [] (fun m env s' => ∃ (i v : Nat), m + i = z ∧ v = valF (s.take i) ∧ v ≤ 4611686018427387903 ∧ env = [.sc (.string (ba s)), .any, .ptr st.length 0, .any, .any, .any, .sc (.int .i64 z), .sc (.int .i64 v), .sc (.int .i64 i), .any, .any, .any, .any, .any, .any, .any, .any, .any, .any, .any, .any, .any, .any, .any, .any, .any, .any, .any, .any, .any, .any, .any, .any, .any, .any, .any, .any, .any, .any, .any, .any, .any, .any, .any, .any, .any, .any, .any, .any, .any, .any, .any, .any, .any, .any, .any, .any, .any, .any, .any, .any, .any, .any, .any, .any, .any, .any, .any, .any, .any, .any, .any, .any, .any, .any, .any, .any, .any, .any, .any, .any, .any, .any, .any, .any, .any, .any, .any, .any, .any, .any, .any, .any, .any, .any, .any, .any, .any, .any, .any, .any, .any, .any, .any, .any, .any, .any, .any, .any, .any, .any, .any, .any, .any, .any, .any, .any, .any, .any, .any, .any, .any, .any, .any, .any, .any, .any, .any, .any, .any, .any, .any, .any, .any, .any, .any, .any] ∧ s' = st ++ [zTk]) (n := z) ?_ ⟨0, 0, by omega, by simp [valF], by omega, rfl, rfl⟩ ?_
    · repeat (first | exact leEnv_nil | refine leEnv_any _ ?_ | refine leEnv_same _ ?_ | refine leEnv_norm _ ?_)
    rintro m env s' ⟨i, v, hm, hvi, hvm, rfl, rfl⟩
    have w1 : IntKind.i64.wrap ((i : Int) + 1) = ((i + 1 : Nat) : Int) := by rw [IntWalk.i64_in _ (by omega)]; rfl
    by_cases hl : i < z
    · obtain ⟨h2, hdi⟩ := hall i hl
      have c1 : decide ((i : Int) < (z : Int)) = true := by simp; omega
      have hgi := ba_get h2
      have hrng := digit_rng hdi
      have hlt := s[i].toNat_lt
      obtain ⟨dd, hdd⟩ : ∃ dd : Nat, dd = s[i].toNat - 48 := ⟨_, rfl⟩
      have hd9 : dd ≤ 9 := by omega
      have e0 : (s[i].toNat : Int) - 48 = (dd : Int) := by omega
      have w2 : IntKind.u8.wrap ((s[i].toNat : Int) - 48) = (dd : Int) := by rw [e0]; exact u8w (by omega) (by omega)
      have w3 : IntKind.i64.wrap (dd : Int) = (dd : Int) := IntWalk.i64_in _ (by omega)
      have cv : convV Tryd.prog 3 (.sc (.int .u8 (dd : Int))) = .sc (.int .i64 (dd : Int)) := by rw [convV_int (k' := .i64) _ _ Tryd.i3, w3]
      have co : convOk Tryd.prog 5 3 (.sc (.int .u8 (dd : Int))) = True := eq_true ⟨by rw [Tryd.i5]; rfl, .inl (by rw [Tryd.i3]; rfl)⟩
      have hvs : valF (s.take (i + 1)) = 10 * v + dd := by rw [val_take h2, hvi, hdd]
      have w4 : IntKind.i64.wrap (4611686018427387903 - (dd : Int)) = 4611686018427387903 - (dd : Int) := IntWalk.i64_in _ (by omega)
      have w5 : (4611686018427387903 - (dd : Int)).tdiv 10 = (((4611686018427387903 - dd) / 10 : Nat) : Int) := by
        rw [show (4611686018427387903 - (dd : Int)) = ((4611686018427387903 - dd : Nat) : Int) by omega]; rfl
      have w6 : IntKind.i64.wrap ((((4611686018427387903 - dd) / 10 : Nat) : Int)) = ((((4611686018427387903 - dd) / 10 : Nat) : Int)) := IntWalk.i64_in _ (by omega)
      by_cases hov : 4611686018427387903 < 10 * v + dd
      · have c2 : decide ((((4611686018427387903 - dd) / 10 : Nat) : Int) < (v : Int)) = true := by simp; omega
        have hbig : 4611686018427387903 < valF (s.take z) := by
          have := val_take_le (s.take z) (i + 1)
          rw [List.take_take, Nat.min_eq_left (by omega), hvs] at this
          omega
        rw [if_pos hbig] at hk
        simp only [go_sem, reduceCtorEq, Nat.reduceAdd, Nat.reduceMul, Nat.reduceLeDiff, Nat.reduceLT, Int.reduceLE, Int.reduceLT, Int.reduceEq, Nat.reduceBEq, Nat.reduceEqDiff, ba_size, c1, hgi, w2, cv, co, w4, w5, w6, gt_iff_lt, c2, zTk]
        exact ⟨by omega, fin_pure (ids_tk3 _ tk0 _ _) (hk tk0 0)⟩
      · have c2 : decide ((((4611686018427387903 - dd) / 10 : Nat) : Int) < (v : Int)) = false := by simp; omega
        have w7 : IntKind.i64.wrap (10 * (v : Int)) = ((10 * v : Nat) : Int) := by rw [IntWalk.i64_in _ (by omega)]; omega
        have w8 : IntKind.i64.wrap (((10 * v : Nat) : Int) + (dd : Int)) = ((10 * v + dd : Nat) : Int) := by rw [IntWalk.i64_in _ (by omega)]; omega
        simp only [go_sem, reduceCtorEq, Nat.reduceAdd, Nat.reduceMul, Nat.reduceLeDiff, Nat.reduceLT, Int.reduceLE, Int.reduceLT, Int.reduceEq, Nat.reduceBEq, Nat.reduceEqDiff, ba_size, c1, hgi, w2, cv, co, w4, w5, w6, gt_iff_lt, c2, w7, w8, w1]
        refine ⟨by omega, m - 1, _, by omega, ?_, i + 1, 10 * v + dd, by omega, hvs.symm, by omega, rfl⟩
        repeat (first | exact leEnv_nil | refine leEnv_any _ ?_ | refine leEnv_same _ ?_ | refine leEnv_norm _ ?_)
    · have c1 : decide ((i : Int) < (z : Int)) = false := by simp; omega
      obtain rfl : i = z := by omega
      rw [if_neg (by omega)] at hk
      simp only [go_sem, reduceCtorEq, Nat.reduceAdd, Nat.reduceMul, Nat.reduceLeDiff, Nat.reduceLT, Int.reduceLE, Int.reduceLT, Int.reduceEq, Nat.reduceBEq, Nat.reduceEqDiff, c1, zTk]
      rw [← hvi] at hk
      exact fin_pure (ids_tk3 _ ⟨1, [], v, 0⟩ _ _) hk
end Go.Proofs
