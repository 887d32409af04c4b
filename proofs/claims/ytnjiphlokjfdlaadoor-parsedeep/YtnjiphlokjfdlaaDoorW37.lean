/- ParseDeep. -/
import Derived.Test.YtnjiphlokjfdlaaDoorW36
import Derived.Test.YtnjiphlokjfdlaaDoorW36b
import Derived.Test.YtnjiphlokjfdlaaDoorM5
set_option linter.unusedSimpArgs false
set_option linter.unusedVariables false
set_option maxRecDepth 8000
namespace Go.Proofs
open Go Go.AL
theorem pkt {c : Int} {n : Nat} (hc : -9223372036854775808 ≤ c ∧ c ≤ 9223372036854775807) (hn : 0 < n) {k : Nat} (hk : pickF c n = k) (hb : decide (c < 0) = true) : IntKind.i64.wrap (c + 1) = c + 1 ∧ IntKind.i64.wrap (0 - (c + 1)) = -(c + 1) ∧ (-(c + 1)).tmod (n : Int) = (k : Int) := by
  have h : c < 0 := by simpa using hb
  unfold pickF at hk
  rw [if_pos h] at hk
  exact ⟨IntWalk.i64_in _ (by omega), by rw [IntWalk.i64_in _ (by omega)]; omega, hk⟩
theorem pkf {c : Int} {n : Nat} (hc : -9223372036854775808 ≤ c ∧ c ≤ 9223372036854775807) (hn : 0 < n) {k : Nat} (hk : pickF c n = k) (hb : decide (c < 0) = false) : c.tmod (n : Int) = (k : Int) := by
  have h : ¬ c < 0 := by simpa using hb
  unfold pickF at hk
  rw [if_neg h] at hk
  exact hk
def opSV : List SV := [.sc (.string ⟨#[40]⟩), .sc (.string ⟨#[102, 117, 110, 32, 120, 32, 45, 62, 32]⟩), .sc (.string ⟨#[109, 97, 116, 99, 104, 32, 49, 32, 119, 105, 116, 104, 32, 124, 32, 95, 32, 45, 62, 32]⟩)]
def clSV : List SV := [.sc (.string ⟨#[41]⟩), .sc (.string ⟨#[]⟩), .sc (.string ⟨#[32, 101, 110, 100]⟩)]
theorem opSV_len : opSV.length = 3 := rfl
theorem clSV_len : clSV.length = 3 := rfl
theorem opSV_get : ∀ k, k < 3 → opSV.getD k .any = .sc (.string (ba (openL.getD k [])))
  | 0, _ => rfl
  | 1, _ => rfl
  | 2, _ => rfl
theorem clSV_get : ∀ k, k < 3 → clSV.getD k .any = .sc (.string (ba (closeL.getD k [])))
  | 0, _ => rfl
  | 1, _ => rfl
  | 2, _ => rfl
theorem op20 : ∀ k, k < 3 → (openL.getD k []).length ≤ 20
  | 0, _ => by decide
  | 1, _ => by decide
  | 2, _ => by decide
theorem cl20 : ∀ k, k < 3 → (closeL.getD k []).length ≤ 20
  | 0, _ => by decide
  | 1, _ => by decide
  | 2, _ => by decide
theorem rep_len (s : Tx) (n : Nat) : (rep s n).length = n * s.length := by
  induction n with
  | zero => simp [rep]
  | succ n ih => rw [rep, List.length_append, ih, Nat.succ_mul]
set_option maxHeartbeats 4000000 in
theorem deep_c {gid : Nat} {m : Int} {K : SV → St → Prop} {st : St} (hg : GAt gid m st) {n kd : Int} (hn : -9223372036854775808 ≤ n ∧ n ≤ 9223372036854775807) (hk0 : -9223372036854775808 ≤ kd ∧ kd ≤ 9223372036854775807) {nn kk : Nat} (hnn : pickF n (61 : Nat) = nn) (hkk : pickF kd (3 : Nat) = kk) (hnl : nn < 61) (hkl : kk < 3)
    (hchk : chkD nn kk = true) (hk : K (.sc (.bool true)) st) : ACalls Tryd.prog 4 [.sc (.int .i64 n), .sc (.int .i64 kd)] K st := by
  refine acalls_go_pure [] Tryd.func4 rfl Tryd.results4 Tryd.ntmps4 ?_
  have hop := opSV_get kk hkl
  have hcl := clSV_get kk hkl
  have ho20 := op20 kk hkl
  have hc20 := cl20 kk hkl
  cases hb1 : decide (n < 0) with
  | true =>
    cases hb2 : decide (kd < 0) with
    | true =>
      have w1 := pkt hn (by decide) hnn hb1
      have w2 := pkt hk0 (by decide) hkk hb2
      have y1 := w1.2.2
      have y2 := w2.2.2
      rw [show ((61 : Nat) : Int) = 61 from rfl] at y1
      rw [show ((3 : Nat) : Int) = 3 from rfl] at y2
      simp only [go_sem, reduceCtorEq, Nat.reduceAdd, Nat.reduceMul, Nat.reduceLeDiff, Nat.reduceLT, Int.reduceLE, Int.reduceLT, Int.reduceEq, Nat.reduceBEq, Nat.reduceEqDiff, hb1, w1.1, w1.2.1, y1, hb2, w2.1, w2.2.1, y2]
      skip
      refine awp_rounds [] (fun k env s => ∃ i : Nat, k + i = nn ∧ env = [.sc (.int .i64 nn), .any, .any, .any, .any, .sc (.int .i64 kk), .slice .full 1 opSV, .slice .full 1 clSV, .sc (.string (ba ([100, 111, 32] ++ rep (openL.getD kk []) i))), .sc (.string (ba (rep (closeL.getD kk []) i))), .sc (.int .i64 i), .any, .any, .any, .any, .any, .any, .any, .any, .any, .any, .any, .any, .any, .any, .any, .any, .any, .any, .any, .any, .any, .any, .any, .any, .any, .any, .any, .any, .any, .any, .any, .any, .any, .any, .any, .any, .any, .any, .any, .any, .any, .any, .any, .any, .any, .any, .any, .any, .any, .any, .any, .any, .any, .any, .any, .any, .any, .any, .any, .any, .any, .any, .any, .any, .any] ∧ s = st) (n := nn) ?_ ⟨0, by omega, rfl, rfl⟩ ?_
      · repeat (first | exact leEnv_nil | refine leEnv_any _ ?_ | refine leEnv_same _ ?_ | refine leEnv_norm _ ?_)
      rintro k env s ⟨i, hi, rfl, rfl⟩
      have hlo := rep_len (openL.getD kk []) i
      have hlc := rep_len (closeL.getD kk []) i
      have hm1 : i * (openL.getD kk []).length ≤ 60 * 20 := Nat.mul_le_mul (by omega) ho20
      have hm2 : i * (closeL.getD kk []).length ≤ 60 * 20 := Nat.mul_le_mul (by omega) hc20
      by_cases hlt : i < nn
      · have c1 : decide ((i : Int) < (nn : Int)) = true := by simp; omega
        have w5 : IntKind.i64.wrap ((i : Int) + 1) = ((i + 1 : Nat) : Int) := by rw [IntWalk.i64_in _ (by omega)]; rfl
        simp only [go_sem, reduceCtorEq, Nat.reduceAdd, Nat.reduceMul, Nat.reduceLeDiff, Nat.reduceLT, Int.reduceLE, Int.reduceLT, Int.reduceEq, Nat.reduceBEq, Nat.reduceEqDiff, c1, w5, hop, hcl, opSV_len, clSV_len, ba_size, ba_app, List.length_append, List.length_cons, List.length_nil]
        refine ⟨by omega, by omega, by omega, by omega, k - 1, _, by omega, ?_, i + 1, by omega, rfl⟩
        repeat (first | exact leEnv_nil | refine leEnv_any _ ?_ | refine leEnv_same _ ?_ | refine leEnv_norm _ ?_)
      · have c1 : decide ((i : Int) < (nn : Int)) = false := by simp; omega
        obtain rfl : i = nn := by omega
        have hsz : ([100, 111, 32] ++ rep (openL.getD kk []) i ++ [55] ++ rep (closeL.getD kk []) i).length ≤ 100000 := by
          simp only [List.length_append, List.length_cons, List.length_nil]; omega
        unfold chkD at hchk
        cases hp : programF (srcD i kk) with
        | none => rw [hp] at hchk; cases hchk
        | some y =>
          obtain ⟨nd, a, e⟩ := y
          rw [hp] at hchk
          simp only at hchk
          by_cases h40 : i < 40
          · have c2 : decide ((i : Int) < 40) = true := by simp; omega
            rw [if_pos h40] at hchk
            simp only [Bool.and_eq_true, beq_iff_eq] at hchk
            obtain ⟨rfl, rfl⟩ := hchk
            simp only [go_sem, reduceCtorEq, Nat.reduceAdd, Nat.reduceMul, Nat.reduceLeDiff, Nat.reduceLT, Int.reduceLE, Int.reduceLT, Int.reduceEq, Nat.reduceBEq, Nat.reduceEqDiff, c1, ba_size, List.length_append, List.length_cons, List.length_nil]
            refine ⟨by omega, by omega, ?_⟩
            first | (unfold ACallsH; simp only [put_some, put_none', ev_tmp, List.set_cons_succ, List.set_cons_zero, List.getD_cons_succ, List.getD_cons_zero]) | skip
            refine parseR2 hp (by rw [show (⟨#[55]⟩ : ByteArray) = ba [55] from rfl, ba_app, ba_app]; rfl) hg hsz ?_
            simp only [go_sem, reduceCtorEq, Nat.reduceAdd, Nat.reduceMul, Nat.reduceLeDiff, Nat.reduceLT, Int.reduceLE, Int.reduceLT, Int.reduceEq, Nat.reduceBEq, Nat.reduceEqDiff, c2, beq_self_eq_true]
            first | (unfold ACallsH; simp only [put_some, put_none', ev_tmp, List.set_cons_succ, List.set_cons_zero, List.getD_cons_succ, List.getD_cons_zero]) | skip
            refine lives_c (gat_app hg) ?_
            simp only [go_sem, reduceCtorEq, Nat.reduceAdd, Nat.reduceMul, Nat.reduceLeDiff, Nat.reduceLT, Int.reduceLE, Int.reduceLT, Int.reduceEq, Nat.reduceBEq, Nat.reduceEqDiff]
            exact fin_pure (ids_scv _ _) hk
          · have c2 : decide ((i : Int) < 40) = false := by simp; omega
            rw [if_neg h40] at hchk
            simp only [Bool.and_eq_true, beq_iff_eq] at hchk
            obtain ⟨rfl, ha⟩ := hchk
            simp only [go_sem, reduceCtorEq, Nat.reduceAdd, Nat.reduceMul, Nat.reduceLeDiff, Nat.reduceLT, Int.reduceLE, Int.reduceLT, Int.reduceEq, Nat.reduceBEq, Nat.reduceEqDiff, c1, ba_size, List.length_append, List.length_cons, List.length_nil]
            refine ⟨by omega, by omega, ?_⟩
            first | (unfold ACallsH; simp only [put_some, put_none', ev_tmp, List.set_cons_succ, List.set_cons_zero, List.getD_cons_succ, List.getD_cons_zero]) | skip
            refine parseR2 hp (by rw [show (⟨#[55]⟩ : ByteArray) = ba [55] from rfl, ba_app, ba_app]; rfl) hg hsz ?_
            simp only [go_sem, reduceCtorEq, Nat.reduceAdd, Nat.reduceMul, Nat.reduceLeDiff, Nat.reduceLT, Int.reduceLE, Int.reduceLT, Int.reduceEq, Nat.reduceBEq, Nat.reduceEqDiff, c2, beq_self_eq_true, gt_iff_lt, ha]
            first | (unfold ACallsH; simp only [put_some, put_none', ev_tmp, List.set_cons_succ, List.set_cons_zero, List.getD_cons_succ, List.getD_cons_zero]) | skip
            refine lives_c (gat_app hg) ?_
            simp only [go_sem, reduceCtorEq, Nat.reduceAdd, Nat.reduceMul, Nat.reduceLeDiff, Nat.reduceLT, Int.reduceLE, Int.reduceLT, Int.reduceEq, Nat.reduceBEq, Nat.reduceEqDiff]
            exact fin_pure (ids_scv _ _) hk
    | false =>
      have w1 := pkt hn (by decide) hnn hb1
      have w2 := pkf hk0 (by decide) hkk hb2
      have y1 := w1.2.2
      have y2 := w2
      rw [show ((61 : Nat) : Int) = 61 from rfl] at y1
      rw [show ((3 : Nat) : Int) = 3 from rfl] at y2
      simp only [go_sem, reduceCtorEq, Nat.reduceAdd, Nat.reduceMul, Nat.reduceLeDiff, Nat.reduceLT, Int.reduceLE, Int.reduceLT, Int.reduceEq, Nat.reduceBEq, Nat.reduceEqDiff, hb1, w1.1, w1.2.1, y1, hb2, y2]
      skip
      refine awp_rounds [] (fun k env s => ∃ i : Nat, k + i = nn ∧ env = [.sc (.int .i64 nn), .any, .any, .any, .any, .sc (.int .i64 kk), .slice .full 1 opSV, .slice .full 1 clSV, .sc (.string (ba ([100, 111, 32] ++ rep (openL.getD kk []) i))), .sc (.string (ba (rep (closeL.getD kk []) i))), .sc (.int .i64 i), .any, .any, .any, .any, .any, .any, .any, .any, .any, .any, .any, .any, .any, .any, .any, .any, .any, .any, .any, .any, .any, .any, .any, .any, .any, .any, .any, .any, .any, .any, .any, .any, .any, .any, .any, .any, .any, .any, .any, .any, .any, .any, .any, .any, .any, .any, .any, .any, .any, .any, .any, .any, .any, .any, .any, .any, .any, .any, .any, .any, .any, .any, .any, .any, .any] ∧ s = st) (n := nn) ?_ ⟨0, by omega, rfl, rfl⟩ ?_
      · repeat (first | exact leEnv_nil | refine leEnv_any _ ?_ | refine leEnv_same _ ?_ | refine leEnv_norm _ ?_)
      rintro k env s ⟨i, hi, rfl, rfl⟩
      have hlo := rep_len (openL.getD kk []) i
      have hlc := rep_len (closeL.getD kk []) i
      have hm1 : i * (openL.getD kk []).length ≤ 60 * 20 := Nat.mul_le_mul (by omega) ho20
      have hm2 : i * (closeL.getD kk []).length ≤ 60 * 20 := Nat.mul_le_mul (by omega) hc20
      by_cases hlt : i < nn
      · have c1 : decide ((i : Int) < (nn : Int)) = true := by simp; omega
        have w5 : IntKind.i64.wrap ((i : Int) + 1) = ((i + 1 : Nat) : Int) := by rw [IntWalk.i64_in _ (by omega)]; rfl
        simp only [go_sem, reduceCtorEq, Nat.reduceAdd, Nat.reduceMul, Nat.reduceLeDiff, Nat.reduceLT, Int.reduceLE, Int.reduceLT, Int.reduceEq, Nat.reduceBEq, Nat.reduceEqDiff, c1, w5, hop, hcl, opSV_len, clSV_len, ba_size, ba_app, List.length_append, List.length_cons, List.length_nil]
        refine ⟨by omega, by omega, by omega, by omega, k - 1, _, by omega, ?_, i + 1, by omega, rfl⟩
        repeat (first | exact leEnv_nil | refine leEnv_any _ ?_ | refine leEnv_same _ ?_ | refine leEnv_norm _ ?_)
      · have c1 : decide ((i : Int) < (nn : Int)) = false := by simp; omega
        obtain rfl : i = nn := by omega
        have hsz : ([100, 111, 32] ++ rep (openL.getD kk []) i ++ [55] ++ rep (closeL.getD kk []) i).length ≤ 100000 := by
          simp only [List.length_append, List.length_cons, List.length_nil]; omega
        unfold chkD at hchk
        cases hp : programF (srcD i kk) with
        | none => rw [hp] at hchk; cases hchk
        | some y =>
          obtain ⟨nd, a, e⟩ := y
          rw [hp] at hchk
          simp only at hchk
          by_cases h40 : i < 40
          · have c2 : decide ((i : Int) < 40) = true := by simp; omega
            rw [if_pos h40] at hchk
            simp only [Bool.and_eq_true, beq_iff_eq] at hchk
            obtain ⟨rfl, rfl⟩ := hchk
            simp only [go_sem, reduceCtorEq, Nat.reduceAdd, Nat.reduceMul, Nat.reduceLeDiff, Nat.reduceLT, Int.reduceLE, Int.reduceLT, Int.reduceEq, Nat.reduceBEq, Nat.reduceEqDiff, c1, ba_size, List.length_append, List.length_cons, List.length_nil]
            refine ⟨by omega, by omega, ?_⟩
            first | (unfold ACallsH; simp only [put_some, put_none', ev_tmp, List.set_cons_succ, List.set_cons_zero, List.getD_cons_succ, List.getD_cons_zero]) | skip
            refine parseR2 hp (by rw [show (⟨#[55]⟩ : ByteArray) = ba [55] from rfl, ba_app, ba_app]; rfl) hg hsz ?_
            simp only [go_sem, reduceCtorEq, Nat.reduceAdd, Nat.reduceMul, Nat.reduceLeDiff, Nat.reduceLT, Int.reduceLE, Int.reduceLT, Int.reduceEq, Nat.reduceBEq, Nat.reduceEqDiff, c2, beq_self_eq_true]
            first | (unfold ACallsH; simp only [put_some, put_none', ev_tmp, List.set_cons_succ, List.set_cons_zero, List.getD_cons_succ, List.getD_cons_zero]) | skip
            refine lives_c (gat_app hg) ?_
            simp only [go_sem, reduceCtorEq, Nat.reduceAdd, Nat.reduceMul, Nat.reduceLeDiff, Nat.reduceLT, Int.reduceLE, Int.reduceLT, Int.reduceEq, Nat.reduceBEq, Nat.reduceEqDiff]
            exact fin_pure (ids_scv _ _) hk
          · have c2 : decide ((i : Int) < 40) = false := by simp; omega
            rw [if_neg h40] at hchk
            simp only [Bool.and_eq_true, beq_iff_eq] at hchk
            obtain ⟨rfl, ha⟩ := hchk
            simp only [go_sem, reduceCtorEq, Nat.reduceAdd, Nat.reduceMul, Nat.reduceLeDiff, Nat.reduceLT, Int.reduceLE, Int.reduceLT, Int.reduceEq, Nat.reduceBEq, Nat.reduceEqDiff, c1, ba_size, List.length_append, List.length_cons, List.length_nil]
            refine ⟨by omega, by omega, ?_⟩
            first | (unfold ACallsH; simp only [put_some, put_none', ev_tmp, List.set_cons_succ, List.set_cons_zero, List.getD_cons_succ, List.getD_cons_zero]) | skip
            refine parseR2 hp (by rw [show (⟨#[55]⟩ : ByteArray) = ba [55] from rfl, ba_app, ba_app]; rfl) hg hsz ?_
            simp only [go_sem, reduceCtorEq, Nat.reduceAdd, Nat.reduceMul, Nat.reduceLeDiff, Nat.reduceLT, Int.reduceLE, Int.reduceLT, Int.reduceEq, Nat.reduceBEq, Nat.reduceEqDiff, c2, beq_self_eq_true, gt_iff_lt, ha]
            first | (unfold ACallsH; simp only [put_some, put_none', ev_tmp, List.set_cons_succ, List.set_cons_zero, List.getD_cons_succ, List.getD_cons_zero]) | skip
            refine lives_c (gat_app hg) ?_
            simp only [go_sem, reduceCtorEq, Nat.reduceAdd, Nat.reduceMul, Nat.reduceLeDiff, Nat.reduceLT, Int.reduceLE, Int.reduceLT, Int.reduceEq, Nat.reduceBEq, Nat.reduceEqDiff]
            exact fin_pure (ids_scv _ _) hk
  | false =>
    cases hb2 : decide (kd < 0) with
    | true =>
      have w1 := pkf hn (by decide) hnn hb1
      have w2 := pkt hk0 (by decide) hkk hb2
      have y1 := w1
      have y2 := w2.2.2
      rw [show ((61 : Nat) : Int) = 61 from rfl] at y1
      rw [show ((3 : Nat) : Int) = 3 from rfl] at y2
      simp only [go_sem, reduceCtorEq, Nat.reduceAdd, Nat.reduceMul, Nat.reduceLeDiff, Nat.reduceLT, Int.reduceLE, Int.reduceLT, Int.reduceEq, Nat.reduceBEq, Nat.reduceEqDiff, hb1, y1, hb2, w2.1, w2.2.1, y2]
      skip
      refine awp_rounds [] (fun k env s => ∃ i : Nat, k + i = nn ∧ env = [.sc (.int .i64 nn), .any, .any, .any, .any, .sc (.int .i64 kk), .slice .full 1 opSV, .slice .full 1 clSV, .sc (.string (ba ([100, 111, 32] ++ rep (openL.getD kk []) i))), .sc (.string (ba (rep (closeL.getD kk []) i))), .sc (.int .i64 i), .any, .any, .any, .any, .any, .any, .any, .any, .any, .any, .any, .any, .any, .any, .any, .any, .any, .any, .any, .any, .any, .any, .any, .any, .any, .any, .any, .any, .any, .any, .any, .any, .any, .any, .any, .any, .any, .any, .any, .any, .any, .any, .any, .any, .any, .any, .any, .any, .any, .any, .any, .any, .any, .any, .any, .any, .any, .any, .any, .any, .any, .any, .any, .any, .any] ∧ s = st) (n := nn) ?_ ⟨0, by omega, rfl, rfl⟩ ?_
      · repeat (first | exact leEnv_nil | refine leEnv_any _ ?_ | refine leEnv_same _ ?_ | refine leEnv_norm _ ?_)
      rintro k env s ⟨i, hi, rfl, rfl⟩
      have hlo := rep_len (openL.getD kk []) i
      have hlc := rep_len (closeL.getD kk []) i
      have hm1 : i * (openL.getD kk []).length ≤ 60 * 20 := Nat.mul_le_mul (by omega) ho20
      have hm2 : i * (closeL.getD kk []).length ≤ 60 * 20 := Nat.mul_le_mul (by omega) hc20
      by_cases hlt : i < nn
      · have c1 : decide ((i : Int) < (nn : Int)) = true := by simp; omega
        have w5 : IntKind.i64.wrap ((i : Int) + 1) = ((i + 1 : Nat) : Int) := by rw [IntWalk.i64_in _ (by omega)]; rfl
        simp only [go_sem, reduceCtorEq, Nat.reduceAdd, Nat.reduceMul, Nat.reduceLeDiff, Nat.reduceLT, Int.reduceLE, Int.reduceLT, Int.reduceEq, Nat.reduceBEq, Nat.reduceEqDiff, c1, w5, hop, hcl, opSV_len, clSV_len, ba_size, ba_app, List.length_append, List.length_cons, List.length_nil]
        refine ⟨by omega, by omega, by omega, by omega, k - 1, _, by omega, ?_, i + 1, by omega, rfl⟩
        repeat (first | exact leEnv_nil | refine leEnv_any _ ?_ | refine leEnv_same _ ?_ | refine leEnv_norm _ ?_)
      · have c1 : decide ((i : Int) < (nn : Int)) = false := by simp; omega
        obtain rfl : i = nn := by omega
        have hsz : ([100, 111, 32] ++ rep (openL.getD kk []) i ++ [55] ++ rep (closeL.getD kk []) i).length ≤ 100000 := by
          simp only [List.length_append, List.length_cons, List.length_nil]; omega
        unfold chkD at hchk
        cases hp : programF (srcD i kk) with
        | none => rw [hp] at hchk; cases hchk
        | some y =>
          obtain ⟨nd, a, e⟩ := y
          rw [hp] at hchk
          simp only at hchk
          by_cases h40 : i < 40
          · have c2 : decide ((i : Int) < 40) = true := by simp; omega
            rw [if_pos h40] at hchk
            simp only [Bool.and_eq_true, beq_iff_eq] at hchk
            obtain ⟨rfl, rfl⟩ := hchk
            simp only [go_sem, reduceCtorEq, Nat.reduceAdd, Nat.reduceMul, Nat.reduceLeDiff, Nat.reduceLT, Int.reduceLE, Int.reduceLT, Int.reduceEq, Nat.reduceBEq, Nat.reduceEqDiff, c1, ba_size, List.length_append, List.length_cons, List.length_nil]
            refine ⟨by omega, by omega, ?_⟩
            first | (unfold ACallsH; simp only [put_some, put_none', ev_tmp, List.set_cons_succ, List.set_cons_zero, List.getD_cons_succ, List.getD_cons_zero]) | skip
            refine parseR2 hp (by rw [show (⟨#[55]⟩ : ByteArray) = ba [55] from rfl, ba_app, ba_app]; rfl) hg hsz ?_
            simp only [go_sem, reduceCtorEq, Nat.reduceAdd, Nat.reduceMul, Nat.reduceLeDiff, Nat.reduceLT, Int.reduceLE, Int.reduceLT, Int.reduceEq, Nat.reduceBEq, Nat.reduceEqDiff, c2, beq_self_eq_true]
            first | (unfold ACallsH; simp only [put_some, put_none', ev_tmp, List.set_cons_succ, List.set_cons_zero, List.getD_cons_succ, List.getD_cons_zero]) | skip
            refine lives_c (gat_app hg) ?_
            simp only [go_sem, reduceCtorEq, Nat.reduceAdd, Nat.reduceMul, Nat.reduceLeDiff, Nat.reduceLT, Int.reduceLE, Int.reduceLT, Int.reduceEq, Nat.reduceBEq, Nat.reduceEqDiff]
            exact fin_pure (ids_scv _ _) hk
          · have c2 : decide ((i : Int) < 40) = false := by simp; omega
            rw [if_neg h40] at hchk
            simp only [Bool.and_eq_true, beq_iff_eq] at hchk
            obtain ⟨rfl, ha⟩ := hchk
            simp only [go_sem, reduceCtorEq, Nat.reduceAdd, Nat.reduceMul, Nat.reduceLeDiff, Nat.reduceLT, Int.reduceLE, Int.reduceLT, Int.reduceEq, Nat.reduceBEq, Nat.reduceEqDiff, c1, ba_size, List.length_append, List.length_cons, List.length_nil]
            refine ⟨by omega, by omega, ?_⟩
            first | (unfold ACallsH; simp only [put_some, put_none', ev_tmp, List.set_cons_succ, List.set_cons_zero, List.getD_cons_succ, List.getD_cons_zero]) | skip
            refine parseR2 hp (by rw [show (⟨#[55]⟩ : ByteArray) = ba [55] from rfl, ba_app, ba_app]; rfl) hg hsz ?_
            simp only [go_sem, reduceCtorEq, Nat.reduceAdd, Nat.reduceMul, Nat.reduceLeDiff, Nat.reduceLT, Int.reduceLE, Int.reduceLT, Int.reduceEq, Nat.reduceBEq, Nat.reduceEqDiff, c2, beq_self_eq_true, gt_iff_lt, ha]
            first | (unfold ACallsH; simp only [put_some, put_none', ev_tmp, List.set_cons_succ, List.set_cons_zero, List.getD_cons_succ, List.getD_cons_zero]) | skip
            refine lives_c (gat_app hg) ?_
            simp only [go_sem, reduceCtorEq, Nat.reduceAdd, Nat.reduceMul, Nat.reduceLeDiff, Nat.reduceLT, Int.reduceLE, Int.reduceLT, Int.reduceEq, Nat.reduceBEq, Nat.reduceEqDiff]
            exact fin_pure (ids_scv _ _) hk
    | false =>
      have w1 := pkf hn (by decide) hnn hb1
      have w2 := pkf hk0 (by decide) hkk hb2
      have y1 := w1
      have y2 := w2
      rw [show ((61 : Nat) : Int) = 61 from rfl] at y1
      rw [show ((3 : Nat) : Int) = 3 from rfl] at y2
      simp only [go_sem, reduceCtorEq, Nat.reduceAdd, Nat.reduceMul, Nat.reduceLeDiff, Nat.reduceLT, Int.reduceLE, Int.reduceLT, Int.reduceEq, Nat.reduceBEq, Nat.reduceEqDiff, hb1, y1, hb2, y2]
      skip
      refine awp_rounds [] (fun k env s => ∃ i : Nat, k + i = nn ∧ env = [.sc (.int .i64 nn), .any, .any, .any, .any, .sc (.int .i64 kk), .slice .full 1 opSV, .slice .full 1 clSV, .sc (.string (ba ([100, 111, 32] ++ rep (openL.getD kk []) i))), .sc (.string (ba (rep (closeL.getD kk []) i))), .sc (.int .i64 i), .any, .any, .any, .any, .any, .any, .any, .any, .any, .any, .any, .any, .any, .any, .any, .any, .any, .any, .any, .any, .any, .any, .any, .any, .any, .any, .any, .any, .any, .any, .any, .any, .any, .any, .any, .any, .any, .any, .any, .any, .any, .any, .any, .any, .any, .any, .any, .any, .any, .any, .any, .any, .any, .any, .any, .any, .any, .any, .any, .any, .any, .any, .any, .any, .any] ∧ s = st) (n := nn) ?_ ⟨0, by omega, rfl, rfl⟩ ?_
      · repeat (first | exact leEnv_nil | refine leEnv_any _ ?_ | refine leEnv_same _ ?_ | refine leEnv_norm _ ?_)
      rintro k env s ⟨i, hi, rfl, rfl⟩
      have hlo := rep_len (openL.getD kk []) i
      have hlc := rep_len (closeL.getD kk []) i
      have hm1 : i * (openL.getD kk []).length ≤ 60 * 20 := Nat.mul_le_mul (by omega) ho20
      have hm2 : i * (closeL.getD kk []).length ≤ 60 * 20 := Nat.mul_le_mul (by omega) hc20
      by_cases hlt : i < nn
      · have c1 : decide ((i : Int) < (nn : Int)) = true := by simp; omega
        have w5 : IntKind.i64.wrap ((i : Int) + 1) = ((i + 1 : Nat) : Int) := by rw [IntWalk.i64_in _ (by omega)]; rfl
        simp only [go_sem, reduceCtorEq, Nat.reduceAdd, Nat.reduceMul, Nat.reduceLeDiff, Nat.reduceLT, Int.reduceLE, Int.reduceLT, Int.reduceEq, Nat.reduceBEq, Nat.reduceEqDiff, c1, w5, hop, hcl, opSV_len, clSV_len, ba_size, ba_app, List.length_append, List.length_cons, List.length_nil]
        refine ⟨by omega, by omega, by omega, by omega, k - 1, _, by omega, ?_, i + 1, by omega, rfl⟩
        repeat (first | exact leEnv_nil | refine leEnv_any _ ?_ | refine leEnv_same _ ?_ | refine leEnv_norm _ ?_)
      · have c1 : decide ((i : Int) < (nn : Int)) = false := by simp; omega
        obtain rfl : i = nn := by omega
        have hsz : ([100, 111, 32] ++ rep (openL.getD kk []) i ++ [55] ++ rep (closeL.getD kk []) i).length ≤ 100000 := by
          simp only [List.length_append, List.length_cons, List.length_nil]; omega
        unfold chkD at hchk
        cases hp : programF (srcD i kk) with
        | none => rw [hp] at hchk; cases hchk
        | some y =>
          obtain ⟨nd, a, e⟩ := y
          rw [hp] at hchk
          simp only at hchk
          by_cases h40 : i < 40
          · have c2 : decide ((i : Int) < 40) = true := by simp; omega
            rw [if_pos h40] at hchk
            simp only [Bool.and_eq_true, beq_iff_eq] at hchk
            obtain ⟨rfl, rfl⟩ := hchk
            simp only [go_sem, reduceCtorEq, Nat.reduceAdd, Nat.reduceMul, Nat.reduceLeDiff, Nat.reduceLT, Int.reduceLE, Int.reduceLT, Int.reduceEq, Nat.reduceBEq, Nat.reduceEqDiff, c1, ba_size, List.length_append, List.length_cons, List.length_nil]
            refine ⟨by omega, by omega, ?_⟩
            first | (unfold ACallsH; simp only [put_some, put_none', ev_tmp, List.set_cons_succ, List.set_cons_zero, List.getD_cons_succ, List.getD_cons_zero]) | skip
            refine parseR2 hp (by rw [show (⟨#[55]⟩ : ByteArray) = ba [55] from rfl, ba_app, ba_app]; rfl) hg hsz ?_
            simp only [go_sem, reduceCtorEq, Nat.reduceAdd, Nat.reduceMul, Nat.reduceLeDiff, Nat.reduceLT, Int.reduceLE, Int.reduceLT, Int.reduceEq, Nat.reduceBEq, Nat.reduceEqDiff, c2, beq_self_eq_true]
            first | (unfold ACallsH; simp only [put_some, put_none', ev_tmp, List.set_cons_succ, List.set_cons_zero, List.getD_cons_succ, List.getD_cons_zero]) | skip
            refine lives_c (gat_app hg) ?_
            simp only [go_sem, reduceCtorEq, Nat.reduceAdd, Nat.reduceMul, Nat.reduceLeDiff, Nat.reduceLT, Int.reduceLE, Int.reduceLT, Int.reduceEq, Nat.reduceBEq, Nat.reduceEqDiff]
            exact fin_pure (ids_scv _ _) hk
          · have c2 : decide ((i : Int) < 40) = false := by simp; omega
            rw [if_neg h40] at hchk
            simp only [Bool.and_eq_true, beq_iff_eq] at hchk
            obtain ⟨rfl, ha⟩ := hchk
            simp only [go_sem, reduceCtorEq, Nat.reduceAdd, Nat.reduceMul, Nat.reduceLeDiff, Nat.reduceLT, Int.reduceLE, Int.reduceLT, Int.reduceEq, Nat.reduceBEq, Nat.reduceEqDiff, c1, ba_size, List.length_append, List.length_cons, List.length_nil]
            refine ⟨by omega, by omega, ?_⟩
            first | (unfold ACallsH; simp only [put_some, put_none', ev_tmp, List.set_cons_succ, List.set_cons_zero, List.getD_cons_succ, List.getD_cons_zero]) | skip
            refine parseR2 hp (by rw [show (⟨#[55]⟩ : ByteArray) = ba [55] from rfl, ba_app, ba_app]; rfl) hg hsz ?_
            simp only [go_sem, reduceCtorEq, Nat.reduceAdd, Nat.reduceMul, Nat.reduceLeDiff, Nat.reduceLT, Int.reduceLE, Int.reduceLT, Int.reduceEq, Nat.reduceBEq, Nat.reduceEqDiff, c2, beq_self_eq_true, gt_iff_lt, ha]
            first | (unfold ACallsH; simp only [put_some, put_none', ev_tmp, List.set_cons_succ, List.set_cons_zero, List.getD_cons_succ, List.getD_cons_zero]) | skip
            refine lives_c (gat_app hg) ?_
            simp only [go_sem, reduceCtorEq, Nat.reduceAdd, Nat.reduceMul, Nat.reduceLeDiff, Nat.reduceLT, Int.reduceLE, Int.reduceLT, Int.reduceEq, Nat.reduceBEq, Nat.reduceEqDiff]
            exact fin_pure (ids_scv _ _) hk
end Go.Proofs
