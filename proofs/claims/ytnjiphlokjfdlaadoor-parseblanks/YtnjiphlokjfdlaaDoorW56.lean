/- ParseBlanks. -/
import Derived.Test.YtnjiphlokjfdlaaDoorW55
import Derived.Test.YtnjiphlokjfdlaaDoorW53
import Derived.Test.YtnjiphlokjfdlaaDoorP15
set_option linter.unusedSimpArgs false
set_option linter.unusedVariables false
set_option maxRecDepth 8000
namespace Go.AL
/-- The parser ends; what it makes has few kids. -/
theorem program_some {s : Tx} : ∃ n a e, programF s = some (n, a, e) ∧ (e = 0 → Few 3000 n) ∧ (e ≠ 0 → n = nd0) := by
  unfold programF
  cases hl : lexF s with
  | error x =>
    obtain ⟨a, e⟩ := x
    exact ⟨_, _, _, rfl, fun h => absurd h (lexF_err hl), fun _ => rfl⟩
  | ok T =>
    have hlen := lexF_len hl
    obtain ⟨nd, b, e, h1, h2, h3⟩ := parse_ok (lx_tok (lexF_lx hl).1).1
    exact ⟨nd, b, e, h1, fun h => (h2 h).2.few (by omega), h3⟩
theorem few_mono {N M : Nat} {n : Nd} (h : Few N n) (hM : N ≤ M) : Few M n := by
  induction h with
  | mk n h h1 h2 ih => exact .mk n ih (Nat.le_trans h1 hM) (Nat.le_trans h2 hM)
/-- One token more. -/
theorem blF_step {s : Tx} {T : List Tk} {i : Nat} (h : i < T.length) {acc : Tx} (hacc : acc ++ blF s (T.drop i) = blF s T) (e : Nat) (he : e = if h' : i + 1 < T.length then T[i + 1].pos.toNat else s.length) (hb : ∀ (j : Nat) (t : Tk), T[j]? = some t → t.pos.toNat ≤ s.length) : (acc ++ (s.drop T[i].pos.toNat).take (e - T[i].pos.toNat) ++ [10]) ++ blF s (T.drop (i + 1)) = blF s T := by
  rw [List.drop_eq_getElem_cons h] at hacc
  rw [← hacc]
  by_cases h' : i + 1 < T.length
  · rw [dif_pos h'] at he
    subst he
    rw [List.drop_eq_getElem_cons h']
    simp only [blF, List.append_assoc, List.cons_append, List.nil_append]
  · rw [dif_neg h'] at he
    subst he
    have hd : T.drop (i + 1) = [] := List.drop_of_length_le (by omega)
    rw [hd]
    simp only [blF, List.append_assoc, List.append_nil]
    rw [List.take_of_length_le (Nat.le_of_eq List.length_drop)]
end Go.AL
namespace Go.Proofs
open Go Go.AL
theorem rtokE_c {s : Tx} (hz : s.length ≤ 100000) {a : Nat} {e : Int} (h : lexF s = .error (a, e)) {K : SV → St → Prop} {st : St} (hk : ∀ x, K (.tuple [x, .sc (.int .i64 a), .sc (.int .i64 e)]) st) : ACalls Tryd.prog 12 [.sc (.string (ba s))] K st := by
  refine rtokens_c hz ?_
  rw [h]; exact hk
theorem tkSV_get2 {l : List Tk} {i : Nat} (h : i < l.length) : (l.map tkSV).getD i .any = tkSV l[i] := by simp [List.getD_eq_getElem?_getD, h]
set_option maxHeartbeats 4000000 in
theorem blanksE_c {gid : Nat} {m : Int} {K : SV → St → Prop} {st : St} (hg : GAt gid m st) {s0 s : Tx} (hs : s = s0.take 400) {a : Nat} {e : Int} (h : lexF s = .error (a, e)) (hk : K (.sc (.bool true)) st) : ACalls Tryd.prog 5 [.sc (.string (ba s0))] K st := by
  refine acalls_go_pure [] Tryd.func5 rfl Tryd.results5 Tryd.ntmps5 ?_
  have c1 : (e != 0) = true := by have := lexF_err h; simp [this]
  have hsl : s.length ≤ 400 := by rw [hs]; simp; omega
  simp only [go_sem, reduceCtorEq, Nat.reduceAdd, Nat.reduceMul, Nat.reduceLeDiff, Nat.reduceLT, Int.reduceLE, Int.reduceLT, Int.reduceEq, Nat.reduceBEq, Nat.reduceEqDiff]
  refine few_c ?_
  rw [← hs]
  simp only [go_sem, reduceCtorEq, Nat.reduceAdd, Nat.reduceMul, Nat.reduceLeDiff, Nat.reduceLT, Int.reduceLE, Int.reduceLT, Int.reduceEq, Nat.reduceBEq, Nat.reduceEqDiff]
  refine rtokE_c (by omega) h fun x => ?_
  simp only [go_sem, reduceCtorEq, Nat.reduceAdd, Nat.reduceMul, Nat.reduceLeDiff, Nat.reduceLT, Int.reduceLE, Int.reduceLT, Int.reduceEq, Nat.reduceBEq, Nat.reduceEqDiff, c1]
  refine lives_c hg ?_
  simp only [go_sem, reduceCtorEq, Nat.reduceAdd, Nat.reduceMul, Nat.reduceLeDiff, Nat.reduceLT, Int.reduceLE, Int.reduceLT, Int.reduceEq, Nat.reduceBEq, Nat.reduceEqDiff, c1]
  exact fin_pure1 (ids_scv _ _) hk
theorem rsame_c2 {a b : Nd} (ha : Few 100000 a) (hb : Few 100000 b) {v : Bool} (hv : sameB a b = v) {K : SV → St → Prop} {st : St} (hk : K (.sc (.bool v)) st) : ACalls Tryd.prog 13 [ndSV a, ndSV b, .sc (.bool false)] K st := by
  subst hv; exact rsame_c ha hb _ _ hk
theorem wrapC (a b : Tx) : (ba a ++ ba b ++ ⟨#[10]⟩ : ByteArray) = ba (a ++ b ++ [10]) := by
  rw [show (⟨#[10]⟩ : ByteArray) = ba [10] from rfl, ba_app, ba_app]
theorem few_c2 {s r : Tx} (h : r = s.take 400) {K : SV → St → Prop} {st : St} (hk : K (.sc (.string (ba r))) st) : ACalls Tryd.prog 11 [.sc (.string (ba s))] K st := by subst h; exact few_c hk
set_option maxHeartbeats 4000000 in
theorem blanks_c {gid : Nat} {m : Int} {K : SV → St → Prop} {st : St} (hg : GAt gid m st) {s0 s : Tx} (hs : s = s0.take 400) {T : List Tk} (h : lexF s = .ok T) (hk : K (.sc (.bool true)) st) : ACalls Tryd.prog 5 [.sc (.string (ba s0))] K st := by
  refine acalls_go_pure [] Tryd.func5 rfl Tryd.results5 Tryd.ntmps5 ?_
  have hsl : s.length ≤ 400 := by rw [hs]; simp; omega
  have hTl := lexF_len h
  obtain ⟨K1, K2, K3, K4⟩ := lx_tok (lexF_lx h).1
  have hpos : ∀ (j : Nat) (t : Tk), T[j]? = some t → 0 ≤ t.pos ∧ t.pos.toNat ≤ s.length := fun j t hj => by have := K3 j t hj; omega
  have hbl : (blF s T).length ≤ 10000 := by
    have := blF_len s T 0 (fun i t h => by have := K3 i t h; omega) K1.sorted
    omega
  obtain ⟨n1, a1, e1, h1, f1, z1⟩ := program_some (s := s)
  obtain ⟨n2, a2, e2, h2, f2, z2⟩ := program_some (s := blF s T)
  have hlaw := blanks_law hsl h h1 h2
  simp only [go_sem, reduceCtorEq, Nat.reduceAdd, Nat.reduceMul, Nat.reduceLeDiff, Nat.reduceLT, Int.reduceLE, Int.reduceLT, Int.reduceEq, Nat.reduceBEq, Nat.reduceEqDiff]
  refine few_c2 hs ?_
  simp only [go_sem, reduceCtorEq, Nat.reduceAdd, Nat.reduceMul, Nat.reduceLeDiff, Nat.reduceLT, Int.reduceLE, Int.reduceLT, Int.reduceEq, Nat.reduceBEq, Nat.reduceEqDiff]
  refine rtokO_c (by omega) h ?_
  simp only [go_sem, reduceCtorEq, Nat.reduceAdd, Nat.reduceMul, Nat.reduceLeDiff, Nat.reduceLT, Int.reduceLE, Int.reduceLT, Int.reduceEq, Nat.reduceBEq, Nat.reduceEqDiff, d0n]
  refine awp_rounds [] (fun k env s' => ∃ (i : Nat) (acc : Tx), k + i = T.length ∧ acc ++ blF s (T.drop i) = blF s T ∧ env = [.sc (.string (ba s)), .any, .sc (.bool false), .slice .imm 4 (T.map tkSV), .sc (.int .i64 0), .sc (.int .i64 0), .sc (.string (ba acc)), .sc (.int .i64 i), .any, .any, .any, .any, .any, .any, .any, .any, .any, .any, .any, .any, .any, .any, .any, .any, .any, .any, .any, .any, .any, .any, .any, .any, .any, .any, .any, .any, .any, .any, .any, .any, .any, .any, .any, .any, .any, .any, .any, .any, .any, .any, .any, .any, .any, .any, .any, .any, .any, .any, .any, .any, .any, .any, .any, .any, .any, .any, .any, .any, .any, .any, .any, .any, .any, .any, .any, .any, .any, .any, .any, .any, .any] ∧ s' = st) (n := T.length) ?_ ⟨0, [], by omega, rfl, rfl, rfl⟩ ?_
  · repeat (first | exact leEnv_nil | refine leEnv_any _ ?_ | refine leEnv_same _ ?_ | refine leEnv_norm _ ?_)
  rintro k env s' ⟨i, acc, hi, hacc, rfl, rfl⟩
  by_cases hlt : i < T.length
  · have c2 : decide ((i : Int) < (T.length : Int)) = true := by simp; omega
    have w1 : IntKind.i64.wrap ((i : Int) + 1) = ((i + 1 : Nat) : Int) := by rw [IntWalk.i64_in _ (by omega)]; rfl
    have g1 := tkSV_get2 hlt
    have p1 := hpos i _ (List.getElem?_eq_getElem hlt)
    have hstep := blF_step hlt hacc _ rfl (fun j t hj => (hpos j t hj).2)
    by_cases hlt2 : i + 1 < T.length
    · have c3 : decide (((i + 1 : Nat) : Int) < (T.length : Int)) = true := by simp; omega
      have g2 := tkSV_get2 hlt2
      have p2 := hpos (i + 1) _ (List.getElem?_eq_getElem hlt2)
      have p3 := K1.sorted i (i + 1) _ _ (by omega) (List.getElem?_eq_getElem hlt) (List.getElem?_eq_getElem hlt2)
      rw [dif_pos hlt2] at hstep
      have q1 : acc.length ≤ 10000 := by have := congrArg List.length hacc; simp only [List.length_append] at this; omega
      have q2 : (List.take (T[i + 1].pos.toNat - T[i].pos.toNat) (List.drop T[i].pos.toNat s)).length ≤ 400 := by rw [List.length_take, List.length_drop]; omega
      simp only [go_sem, reduceCtorEq, Nat.reduceAdd, Nat.reduceMul, Nat.reduceLeDiff, Nat.reduceLT, Int.reduceLE, Int.reduceLT, Int.reduceEq, Nat.reduceBEq, Nat.reduceEqDiff, c2, w1, c3, List.length_map, g1, g2, ba_size, ba_extract]
      refine ⟨by omega, by omega, ⟨by omega, by omega, by omega⟩, by omega, by omega, k - 1, _, by omega, ?_, i + 1, _, by omega, hstep, rfl⟩
      rw [wrapC]
      repeat (first | exact leEnv_nil | refine leEnv_any _ ?_ | refine leEnv_same _ ?_ | refine leEnv_norm _ ?_)
    · have c3 : decide (((i + 1 : Nat) : Int) < (T.length : Int)) = false := by simp; omega
      rw [dif_neg hlt2] at hstep
      have q1 : acc.length ≤ 10000 := by have := congrArg List.length hacc; simp only [List.length_append] at this; omega
      have q2 : (List.take (s.length - T[i].pos.toNat) (List.drop T[i].pos.toNat s)).length ≤ 400 := by rw [List.length_take, List.length_drop]; omega
      simp only [go_sem, reduceCtorEq, Nat.reduceAdd, Nat.reduceMul, Nat.reduceLeDiff, Nat.reduceLT, Int.reduceLE, Int.reduceLT, Int.reduceEq, Nat.reduceBEq, Nat.reduceEqDiff, c2, w1, c3, List.length_map, g1, ba_size, ba_extract, Int.toNat_natCast]
      refine ⟨by omega, ⟨by omega, by omega⟩, by omega, by omega, k - 1, _, by omega, ?_, i + 1, _, by omega, hstep, rfl⟩
      rw [wrapC]
      repeat (first | exact leEnv_nil | refine leEnv_any _ ?_ | refine leEnv_same _ ?_ | refine leEnv_norm _ ?_)
  · have c2 : decide ((i : Int) < (T.length : Int)) = false := by simp; omega
    rw [List.drop_of_length_le (by omega)] at hacc
    have hacc : acc = blF s T := by simpa [blF] using hacc
    subst hacc
    obtain ⟨hee, hsm⟩ := hlaw
    have c4 : (e1 == e2) = true := by simp [hee]
    have hfw : Few 100000 n1 ∧ Few 100000 n2 := by
      by_cases q1 : e1 = 0
      · exact ⟨few_mono (f1 q1) (by decide), few_mono (f2 (by omega)) (by decide)⟩
      · rw [z1 q1, z2 (by omega)]; exact ⟨few_nd0 _, few_nd0 _⟩
    simp only [go_sem, reduceCtorEq, Nat.reduceAdd, Nat.reduceMul, Nat.reduceLeDiff, Nat.reduceLT, Int.reduceLE, Int.reduceLT, Int.reduceEq, Nat.reduceBEq, Nat.reduceEqDiff, c2]
    refine parseR h1 hg (by omega) ?_
    simp only [go_sem, reduceCtorEq, Nat.reduceAdd, Nat.reduceMul, Nat.reduceLeDiff, Nat.reduceLT, Int.reduceLE, Int.reduceLT, Int.reduceEq, Nat.reduceBEq, Nat.reduceEqDiff, c2]
    refine parseR h2 (gat_app hg) (by omega) ?_
    simp only [go_sem, reduceCtorEq, Nat.reduceAdd, Nat.reduceMul, Nat.reduceLeDiff, Nat.reduceLT, Int.reduceLE, Int.reduceLT, Int.reduceEq, Nat.reduceBEq, Nat.reduceEqDiff, c2]
    first | (unfold ACallsH; simp only [put_some, put_none', ev_tmp, List.set_cons_succ, List.set_cons_zero, List.getD_cons_succ, List.getD_cons_zero]) | skip
    refine rsame_c2 hfw.1 hfw.2 hsm ?_
    simp only [go_sem, reduceCtorEq, Nat.reduceAdd, Nat.reduceMul, Nat.reduceLeDiff, Nat.reduceLT, Int.reduceLE, Int.reduceLT, Int.reduceEq, Nat.reduceBEq, Nat.reduceEqDiff, c2, c4]
    refine lives_c (gat_app hg) ?_
    simp only [go_sem, reduceCtorEq, Nat.reduceAdd, Nat.reduceMul, Nat.reduceLeDiff, Nat.reduceLT, Int.reduceLE, Int.reduceLT, Int.reduceEq, Nat.reduceBEq, Nat.reduceEqDiff, c2, c4]
    exact fin_pure (ids_scv _ _) hk
theorem blanksL_c {gid : Nat} {m : Int} {K : SV → St → Prop} {st : St} (hg : GAt gid m st) {s0 : Tx} (hk : K (.sc (.bool true)) st) : ACalls Tryd.prog 5 [.sc (.string (ba s0))] K st := by
  cases h : lexF (s0.take 400) with
  | ok T => exact blanks_c hg rfl h hk
  | error x =>
    obtain ⟨a, e⟩ := x
    exact blanksE_c hg rfl h hk
end Go.Proofs
