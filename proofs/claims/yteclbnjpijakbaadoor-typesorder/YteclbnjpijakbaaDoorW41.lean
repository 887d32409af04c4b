/- TypesOrder: the walk. -/
import Derived.Test.YteclbnjpijakbaaDoorW36a
set_option linter.unusedSimpArgs false
set_option linter.unusedVariables false
set_option maxRecDepth 8000
namespace Go.Proofs
open Go Go.AL

theorem ES.gs0 {st s : St} (hG : Gs [] st s) {eid mid : Nat} {B : Bd} (h : ES st eid mid B) : ES s eid mid B := by
  obtain ⟨M, k1, k2, k3⟩ := h.ex
  exact ⟨M, ⟨(hG.same _ (lt_of_get k1.hid) (by simp)).trans k1.hid, (hG.same _ (lt_of_get k1.hm) (by simp)).trans k1.hm⟩, k2, k3⟩
theorem RS.gs0 {st s : St} (hG : Gs [] st s) {rid : Nat} {B : Bd} (h : RS st rid B) : RS s rid B := by
  obtain ⟨ra, rb, va, vb, R, k1, k2, k3, k4⟩ := h.ex
  exact ⟨ra, rb, va, vb, R, RSt.gs hG k1 (by simp) (by simp) (by simp), k2, k3, k4⟩

def cut2 (q : Ty × Ty) : Ty × Ty := (cutT 6 q.1, cutT 6 q.2)
/-- All were made one, or one was not. -/
def AllI (all : Bool) (l : List (Ty × Ty)) (B : Bd) : Prop := all = true → Run 6 B0 l B

theorem run_can {l1 l2 : List (Ty × Ty)} {S T : Bd} (h1 : Run 6 B0 l1 S) (h2 : Run 6 B0 (l2.map fun p => (p.2, p.1)) T) (hs : ∀ q ∈ l2, q ∈ l1) {q : Ty × Ty} (hq : q ∈ l1) {e : Int} {T' : Bd} (hu : UnR 6 T q.2 q.1 e T') : e = 0 ∨ e = 1 := by
  have r1 := run_spec h1 rg0.bg
  have r2 := run_spec h2 rg0.bg
  have e0 : Sol (thB S) B0 := fun v b _ hb => by cases hb
  refine un_can r2.bg hu (r2.sol _ e0 fun p hp => ?_) (r1.eqs q hq).2.2.symm
  obtain ⟨z, hz, rfl⟩ := List.mem_map.1 hp
  exact (r1.eqs z (hs z hz)).2.2.symm

set_option maxHeartbeats 8000000 in
theorem typesOrder_c (ps : List (Ty × Ty)) (hps : ps.length ≤ 9223372036854775807) (K : SV → St → Prop) (st : St) (h : ∀ s, K (.sc (.bool true)) s) :
    ACalls Tryd.prog 5 [.slice .imm 6 (ps.map prT)] K st := by
  refine acalls_goA Tryd.func5 rfl Tryd.results5 Tryd.ntmps5 ?_
  obtain ⟨p, hp⟩ : ∃ p, st.length = p := ⟨_, rfl⟩
  refine awp_seq (AWp.mono (Q := fun e env s' => e = .normal ∧ LeEnv env [.slice .imm 6 (ps.map prT), .any, .any, .any, .any, .any, .any, .any, .any, .any, .any, .any, .any, .any, .any, .any, .any, .any, .any, .any, .any, .any, .any, .any, .any, .any, .any, .any, .any, .any, .any, .any, .any, .any, .any, .any, .any, .any, .any, .any, .any, .any, .any, .any, .any, .any, .any, .any, .any, .any, .any, .any, .any, .any, .any, .any, .any, .any, .any, .any, .any, .any, .any, .any, .any, .any, .any, .any, .any, .any, .any, .any, .any, .any, .any, .any, .any, .any, .any, .any, .any, .any, .any, .any, .any, .any, .any, .any, .any, .any, .any, .any, .any, .any, .any, .any, .any, .any, .any, .any, .any, .any, .any, .any, .any, .any, .any, .any, .any, .any, .any, .any, .any, .any, .any, .any, .any] ∧ s' = st) ?_ ?_)
  · refine awp_c (M := []) ?_
    simp only [go_sem, reduceCtorEq, Nat.reduceAdd, Nat.reduceMul, Nat.reduceLeDiff, Nat.reduceLT, Int.reduceLE, Int.reduceLT, Int.reduceEq, Nat.reduceBEq, Nat.reduceEqDiff]
    repeat (first | exact leEnv_nil | refine leEnv_any _ ?_ | refine leEnv_same _ ?_ | refine leEnv_norm _ ?_)
  rintro e env s ⟨rfl, hle, rfl⟩
  show AWp _ _ _ _ _
  refine awp_weaken hle ?_
  clear hle env
  refine awp_seq (AWp.mono (Q := fun e env s' => e = .normal ∧ LeEnv env [.slice .imm 6 (ps.map prT), .any, .any, .ptr (p + 1) 0, .ptr (p + 2) 0, .any, .any, .any, .any, .any, .any, .any, .any, .any, .any, .any, .any, .any, .any, .any, .any, .any, .any, .any, .any, .any, .any, .any, .any, .any, .any, .any, .any, .any, .any, .any, .any, .any, .any, .any, .any, .any, .any, .any, .any, .any, .any, .any, .any, .any, .any, .any, .any, .any, .any, .any, .any, .any, .any, .any, .any, .any, .any, .any, .any, .any, .any, .any, .any, .any, .any, .any, .any, .any, .any, .any, .any, .any, .any, .any, .any, .any, .any, .any, .any, .any, .any, .any, .any, .any, .any, .any, .any, .any, .any, .any, .any, .any, .any, .any, .any, .any, .any, .any, .any, .any, .any, .any, .any, .any, .any, .any, .any, .any, .any, .any, .any] ∧ Begun s s' 6) ?_ ?_)
  · refine awp_c (M := []) ?_
    simp only [go_sem, reduceCtorEq, Nat.reduceAdd, Nat.reduceMul, Nat.reduceLeDiff, Nat.reduceLT, Int.reduceLE, Int.reduceLT, Int.reduceEq, Nat.reduceBEq, Nat.reduceEqDiff]
    refine begin_c _ _ fun s' hB => ?_
    simp only [go_sem, reduceCtorEq, Nat.reduceAdd, Nat.reduceMul, Nat.reduceLeDiff, Nat.reduceLT, Int.reduceLE, Int.reduceLT, Int.reduceEq, Nat.reduceBEq, Nat.reduceEqDiff, hp]
    refine ⟨?_, hB⟩
    repeat (first | exact leEnv_nil | refine leEnv_any _ ?_ | refine leEnv_same _ ?_ | refine leEnv_norm _ ?_)
  rintro e env s1 ⟨rfl, hle, hB1⟩
  show AWp _ _ _ _ _
  refine awp_weaken hle ?_
  clear hle env
  obtain ⟨hE1, hR1⟩ := begun_ps hB1
  have hl1 := hB1.len
  rw [hp] at hE1 hR1 hl1
  refine awp_seq (AWp.mono (Q := fun e env s' => e = .normal ∧ LeEnv env [.slice .imm 6 (ps.map prT), .any, .any, .ptr (p + 1) 0, .ptr (p + 2) 0, .ptr (p + 6) 0, .any, .any, .any, .any, .any, .any, .any, .any, .any, .any, .any, .any, .any, .any, .any, .any, .any, .any, .any, .any, .any, .any, .any, .any, .any, .any, .any, .any, .any, .any, .any, .any, .any, .any, .any, .any, .any, .any, .any, .any, .any, .any, .any, .any, .any, .any, .any, .any, .any, .any, .any, .any, .any, .any, .any, .any, .any, .any, .any, .any, .any, .any, .any, .any, .any, .any, .any, .any, .any, .any, .any, .any, .any, .any, .any, .any, .any, .any, .any, .any, .any, .any, .any, .any, .any, .any, .any, .any, .any, .any, .any, .any, .any, .any, .any, .any, .any, .any, .any, .any, .any, .any, .any, .any, .any, .any, .any, .any, .any, .any, .any] ∧ Begun s1 s' 6) ?_ ?_)
  · refine awp_c (M := []) ?_
    simp only [go_sem, reduceCtorEq, Nat.reduceAdd, Nat.reduceMul, Nat.reduceLeDiff, Nat.reduceLT, Int.reduceLE, Int.reduceLT, Int.reduceEq, Nat.reduceBEq, Nat.reduceEqDiff]
    refine begin_c _ _ fun s' hB => ?_
    simp only [go_sem, reduceCtorEq, Nat.reduceAdd, Nat.reduceMul, Nat.reduceLeDiff, Nat.reduceLT, Int.reduceLE, Int.reduceLT, Int.reduceEq, Nat.reduceBEq, Nat.reduceEqDiff, hl1]
    refine ⟨?_, hB⟩
    repeat (first | exact leEnv_nil | refine leEnv_any _ ?_ | refine leEnv_same _ ?_ | refine leEnv_norm _ ?_)
  rintro e env s2 ⟨rfl, hle, hB2⟩
  show AWp _ _ _ _ _
  refine awp_weaken hle ?_
  clear hle env
  obtain ⟨hE2, _⟩ := begun_ps hB2
  have hl2 := hB2.len
  rw [hl1] at hE2 hl2
  have hGs : Gs [] s1 s2 := ⟨by omega, fun j hj _ => hB2.old j hj⟩
  have hE1 := hE1.gs0 hGs
  have hR1 := hR1.gs0 hGs
  clear hB1 hB2 hGs hl1
  refine awp_seq (AWp.mono (Q := fun e env s' => e = .normal ∧ LeEnv env [.slice .imm 6 (ps.map prT), .any, .any, .ptr (p + 1) 0, .ptr (p + 2) 0, .ptr (p + 6) 0, .any, .any, .any, .any, .any, .any, .any, .any, .any, .any, .any, .any, .any, .any, .any, .any, .any, .any, .any, .any, .any, .any, .any, .any, .any, .any, .any, .any, .any, .any, .any, .any, .any, .any, .any, .any, .any, .any, .any, .any, .any, .any, .any, .any, .any, .any, .any, .any, .any, .any, .any, .any, .any, .any, .any, .any, .any, .any, .any, .any, .any, .any, .any, .any, .any, .any, .any, .any, .any, .any, .any, .any, .any, .any, .any, .any, .any, .any, .any, .any, .any, .any, .any, .any, .any, .any, .any, .any, .any, .any, .any, .any, .any, .any, .any, .any, .any, .any, .any, .any, .any, .any, .any, .any, .any, .any, .any, .any, .any, .any, .any] ∧ s' = s2) ?_ ?_)
  · refine awp_c (M := []) ?_
    simp only [go_sem, reduceCtorEq, Nat.reduceAdd, Nat.reduceMul, Nat.reduceLeDiff, Nat.reduceLT, Int.reduceLE, Int.reduceLT, Int.reduceEq, Nat.reduceBEq, Nat.reduceEqDiff]
    repeat (first | exact leEnv_nil | refine leEnv_any _ ?_ | refine leEnv_same _ ?_ | refine leEnv_norm _ ?_)
  rintro e env s3 ⟨rfl, hle, rfl⟩
  show AWp _ _ _ _ _
  refine awp_weaken hle ?_
  clear hle env
  obtain ⟨qs, hqs⟩ : ∃ qs : List (Ty × Ty), qs = ps.take 6 := ⟨_, rfl⟩
  have hql : qs.length ≤ 6 := by rw [hqs, List.length_take]; omega
  refine awp_seq (AWp.mono (Q := fun e env s' => e = .normal ∧ LeEnv env [.slice .imm 6 (qs.map prT), .any, .any, .ptr (p + 1) 0, .ptr (p + 2) 0, .ptr (p + 6) 0, .any, .any, .any, .any, .any, .any, .any, .any, .any, .any, .any, .any, .any, .any, .any, .any, .any, .any, .any, .any, .any, .any, .any, .any, .any, .any, .any, .any, .any, .any, .any, .any, .any, .any, .any, .any, .any, .any, .any, .any, .any, .any, .any, .any, .any, .any, .any, .any, .any, .any, .any, .any, .any, .any, .any, .any, .any, .any, .any, .any, .any, .any, .any, .any, .any, .any, .any, .any, .any, .any, .any, .any, .any, .any, .any, .any, .any, .any, .any, .any, .any, .any, .any, .any, .any, .any, .any, .any, .any, .any, .any, .any, .any, .any, .any, .any, .any, .any, .any, .any, .any, .any, .any, .any, .any, .any, .any, .any, .any, .any, .any] ∧ s' = s3) ?_ ?_)
  · refine awp_c (M := []) ?_
    by_cases h6 : 6 < ps.length
    · have c1 : ((6 : Int) < (ps.length : Int)) = True := eq_true (by omega)
      have c2 : ((6 : Int) ≤ (ps.length : Int)) = True := eq_true (by omega)
      have hsl : List.take (Int.toNat 6) (List.map prT ps) = List.map prT qs := by rw [hqs, List.map_take]; rfl
      simp only [go_sem, reduceCtorEq, Nat.reduceAdd, Nat.reduceMul, Nat.reduceLeDiff, Nat.reduceLT, Int.reduceLE, Int.reduceLT, Int.reduceEq, Nat.reduceBEq, Nat.reduceEqDiff, c1, c2, hsl]
      refine ⟨by omega, ?_⟩
      repeat (first | exact leEnv_nil | refine leEnv_any _ ?_ | refine leEnv_same _ ?_ | refine leEnv_norm _ ?_)
    · have c1 : ((6 : Int) < (ps.length : Int)) = False := eq_false (by omega)
      have e1 : qs = ps := by rw [hqs]; exact List.take_of_length_le (by omega)
      simp only [go_sem, reduceCtorEq, Nat.reduceAdd, Nat.reduceMul, Nat.reduceLeDiff, Nat.reduceLT, Int.reduceLE, Int.reduceLT, Int.reduceEq, Nat.reduceBEq, Nat.reduceEqDiff, c1, e1]
      repeat (first | exact leEnv_nil | refine leEnv_any _ ?_ | refine leEnv_same _ ?_ | refine leEnv_norm _ ?_)
  rintro e env s4 ⟨rfl, hle, rfl⟩
  show AWp _ _ _ _ _
  refine awp_weaken hle ?_
  clear hle env
  refine awp_seq (AWp.mono (Q := fun e env s' => e = .normal ∧ LeEnv env [.slice .imm 6 (qs.map prT), .any, .any, .ptr (p + 1) 0, .ptr (p + 2) 0, .ptr (p + 6) 0, .any, .sc (.bool true), .any, .any, .any, .any, .any, .any, .any, .any, .any, .any, .any, .any, .any, .any, .any, .any, .any, .any, .any, .any, .any, .any, .any, .any, .any, .any, .any, .any, .any, .any, .any, .any, .any, .any, .any, .any, .any, .any, .any, .any, .any, .any, .any, .any, .any, .any, .any, .any, .any, .any, .any, .any, .any, .any, .any, .any, .any, .any, .any, .any, .any, .any, .any, .any, .any, .any, .any, .any, .any, .any, .any, .any, .any, .any, .any, .any, .any, .any, .any, .any, .any, .any, .any, .any, .any, .any, .any, .any, .any, .any, .any, .any, .any, .any, .any, .any, .any, .any, .any, .any, .any, .any, .any, .any, .any, .any, .any, .any, .any] ∧ s' = s4) ?_ ?_)
  · refine awp_c (M := []) ?_
    simp only [go_sem, reduceCtorEq, Nat.reduceAdd, Nat.reduceMul, Nat.reduceLeDiff, Nat.reduceLT, Int.reduceLE, Int.reduceLT, Int.reduceEq, Nat.reduceBEq, Nat.reduceEqDiff]
    repeat (first | exact leEnv_nil | refine leEnv_any _ ?_ | refine leEnv_same _ ?_ | refine leEnv_norm _ ?_)
  rintro e env s5 ⟨rfl, hle, rfl⟩
  show AWp _ _ _ _ _
  refine awp_weaken hle ?_
  clear hle env
  obtain ⟨ws, hws⟩ : ∃ ws : List (Ty × Ty), ws = qs.map cut2 := ⟨_, rfl⟩
  have hwl : ws.length = qs.length := by rw [hws, List.length_map]
  refine awp_seq (AWp.mono (Q := fun e env s' => e = .normal ∧ ∃ all mid1 S, LeEnv env [.slice .imm 6 (qs.map prT), .any, .any, .ptr (p + 1) 0, .ptr (p + 2) 0, .ptr (p + 6) 0, .any, .sc (.bool all), .any, .any, .any, .any, .any, .any, .any, .any, .any, .any, .any, .any, .any, .any, .any, .any, .any, .any, .any, .any, .any, .any, .any, .any, .any, .any, .any, .any, .any, .any, .any, .any, .any, .any, .any, .any, .any, .any, .any, .any, .any, .any, .any, .any, .any, .any, .any, .any, .any, .any, .any, .any, .any, .any, .any, .any, .any, .any, .any, .any, .any, .any, .any, .any, .any, .any, .any, .any, .any, .any, .any, .any, .any, .any, .any, .any, .any, .any, .any, .any, .any, .any, .any, .any, .any, .any, .any, .any, .any, .any, .any, .any, .any, .any, .any, .any, .any, .any, .any, .any, .any, .any, .any, .any, .any, .any, .any, .any, .any] ∧ AllI all ws S ∧ ES s' (p + 1) mid1 S ∧ ES s' (p + 6) (p + 5) B0 ∧ mid1 ≠ p + 5 ∧ mid1 < s'.length) ?_ ?_)
  · refine awp_c (M := []) ?_
    simp only [go_sem, reduceCtorEq, Nat.reduceAdd, Nat.reduceMul, Nat.reduceLeDiff, Nat.reduceLT, Int.reduceLE, Int.reduceLT, Int.reduceEq, Nat.reduceBEq, Nat.reduceEqDiff]
    refine awp_rounds [] (fun m e s => ∃ (k : Nat) (all : Bool) (mid1 : Nat) (B : Bd), m + k = qs.length ∧ AllI all (ws.take k) B ∧ ES s (p + 1) mid1 B ∧ RS s (p + 2) B ∧ ES s (p + 6) (p + 5) B0 ∧ mid1 ≠ p + 5 ∧ p + 7 ≤ s.length ∧
      e = [.slice .imm 6 (qs.map prT), .any, .any, .ptr (p + 1) 0, .ptr (p + 2) 0, .ptr (p + 6) 0, .any, .sc (.bool all), .sc (.int .i64 k), .any, .any, .any, .any, .any, .any, .any, .any, .any, .any, .any, .any, .any, .any, .any, .any, .any, .any, .any, .any, .any, .any, .any, .any, .any, .any, .any, .any, .any, .any, .any, .any, .any, .any, .any, .any, .any, .any, .any, .any, .any, .any, .any, .any, .any, .any, .any, .any, .any, .any, .any, .any, .any, .any, .any, .any, .any, .any, .any, .any, .any, .any, .any, .any, .any, .any, .any, .any, .any, .any, .any, .any, .any, .any, .any, .any, .any, .any, .any, .any, .any, .any, .any, .any, .any, .any, .any, .any, .any, .any, .any, .any, .any, .any, .any, .any, .any, .any, .any, .any, .any, .any, .any, .any, .any, .any, .any, .any]) (n := qs.length) ?_ ⟨0, true, p, B0, by omega, fun _ => .nil, hE1, hR1, hE2, by omega, by omega, rfl⟩ ?_
    · repeat (first | exact leEnv_nil | refine leEnv_any _ ?_ | refine leEnv_same _ ?_ | refine leEnv_norm _ ?_)
    rintro m e s ⟨k, all, mid1, B, hmk, hall, hE, hR, hF, hm, hlen, rfl⟩
    by_cases hlt : k < qs.length
    · have c1 : ((k : Int) < (qs.length : Int)) := by omega
      have c0 : (0 : Int) ≤ (k : Int) := by omega
      have hw := wrapS k (by omega)
      obtain ⟨q, hq⟩ : ∃ q, qs.getD k (default, default) = q := ⟨_, rfl⟩
      have hgk : (qs.map prT).getD k .any = .agg [.sc (.int .i64 q.1.v), .sc (.string q.1.name), .slice .imm 3 (q.1.args.map tySV), .sc (.int .i64 q.2.v), .sc (.string q.2.name), .slice .imm 3 (q.2.args.map tySV)] := by
        rw [getD_prT hlt, hq]
        show SV.agg ((tySV q.1).cells ++ (tySV q.2).cells) = _
        rw [cells_ty, cells_ty]; rfl
      have hA := fun K s h => cut_c 6 (by omega) q.1 K s h
      have hBc := fun K s h => cut_c 6 (by omega) q.2 K s h
      obtain ⟨a, ha⟩ : ∃ a, cutT 6 q.1 = a := ⟨_, rfl⟩
      obtain ⟨b, hb⟩ : ∃ b, cutT 6 q.2 = b := ⟨_, rfl⟩
      have na : nmB a = true := by rw [← ha]; exact cut_nm _ _
      have nb : nmB b = true := by rw [← hb]; exact cut_nm _ _
      have htk : ws.take (k + 1) = ws.take k ++ [(a, b)] := by
        have hkw : k < ws.length := by omega
        rw [List.take_succ_eq_append_getElem hkw]
        congr 2
        have hq2 : qs[k]'hlt = q := by simpa [List.getD_eq_getElem?_getD, hlt] using hq
        simp only [hws, List.getElem_map, hq2, cut2, ha, hb]
      rw [ha, tySV_eq q.1] at hA
      rw [hb, tySV_eq q.2] at hBc
      have hUE := fun K h => uniE_c hE a b na nb K h
      have hltE := hE.lt
      cases all with
      | true =>
        simp only [go_sem, reduceCtorEq, Nat.reduceAdd, Nat.reduceMul, Nat.reduceLeDiff, Nat.reduceLT, Int.reduceLE, Int.reduceLT, Int.reduceEq, Nat.reduceBEq, Nat.reduceEqDiff, c1]
        refine awp_drawN [] 13 Tryd.mixed rfl rfl ?_
        simp only [go_sem, reduceCtorEq, Nat.reduceAdd, Nat.reduceMul, Nat.reduceLeDiff, Nat.reduceLT, Int.reduceLE, Int.reduceLT, Int.reduceEq, Nat.reduceBEq, Nat.reduceEqDiff, c1, c0, hgk]
        refine ⟨tySV a, ?_, ?_⟩
        · simp only [go_sem, reduceCtorEq, Nat.reduceAdd, Nat.reduceMul, Nat.reduceLeDiff, Nat.reduceLT, Int.reduceLE, Int.reduceLT, Int.reduceEq, Nat.reduceBEq, Nat.reduceEqDiff]
          exact hA _ s ⟨⟨[], by simp⟩, ids_ty _ _, .inl rfl⟩
        simp only [go_sem, reduceCtorEq, Nat.reduceAdd, Nat.reduceMul, Nat.reduceLeDiff, Nat.reduceLT, Int.reduceLE, Int.reduceLT, Int.reduceEq, Nat.reduceBEq, Nat.reduceEqDiff, c1, c0, hgk]
        refine ⟨tySV b, ?_, ?_⟩
        · simp only [go_sem, reduceCtorEq, Nat.reduceAdd, Nat.reduceMul, Nat.reduceLeDiff, Nat.reduceLT, Int.reduceLE, Int.reduceLT, Int.reduceEq, Nat.reduceBEq, Nat.reduceEqDiff]
          exact hBc _ s ⟨⟨[], by simp⟩, ids_ty _ _, .inl rfl⟩
        simp only [go_sem, reduceCtorEq, Nat.reduceAdd, Nat.reduceMul, Nat.reduceLeDiff, Nat.reduceLT, Int.reduceLE, Int.reduceLT, Int.reduceEq, Nat.reduceBEq, Nat.reduceEqDiff]
        refine hUE _ (fun e s6 mid' B' u1 u2 u3 u4 => ?_)
        have hUR := fun K h => uniR_c (u3.rs hR (by omega)) a b na nb K h
        have hA' := fun K h => hA K s6 h
        have hB' := fun K h => hBc K s6 h
        have hF6 := u3.es hF (by omega) (Ne.symm hm)
        simp only [go_sem, reduceCtorEq, Nat.reduceAdd, Nat.reduceMul, Nat.reduceLeDiff, Nat.reduceLT, Int.reduceLE, Int.reduceLT, Int.reduceEq, Nat.reduceBEq, Nat.reduceEqDiff]
        refine awp_drawN [] 13 Tryd.mixed rfl rfl ?_
        simp only [go_sem, reduceCtorEq, Nat.reduceAdd, Nat.reduceMul, Nat.reduceLeDiff, Nat.reduceLT, Int.reduceLE, Int.reduceLT, Int.reduceEq, Nat.reduceBEq, Nat.reduceEqDiff, c1, c0, hgk]
        refine ⟨tySV a, ?_, ?_⟩
        · simp only [go_sem, reduceCtorEq, Nat.reduceAdd, Nat.reduceMul, Nat.reduceLeDiff, Nat.reduceLT, Int.reduceLE, Int.reduceLT, Int.reduceEq, Nat.reduceBEq, Nat.reduceEqDiff]
          exact hA' _ ⟨⟨[], by simp⟩, ids_ty _ _, .inl rfl⟩
        simp only [go_sem, reduceCtorEq, Nat.reduceAdd, Nat.reduceMul, Nat.reduceLeDiff, Nat.reduceLT, Int.reduceLE, Int.reduceLT, Int.reduceEq, Nat.reduceBEq, Nat.reduceEqDiff, c1, c0, hgk]
        refine ⟨tySV b, ?_, ?_⟩
        · simp only [go_sem, reduceCtorEq, Nat.reduceAdd, Nat.reduceMul, Nat.reduceLeDiff, Nat.reduceLT, Int.reduceLE, Int.reduceLT, Int.reduceEq, Nat.reduceBEq, Nat.reduceEqDiff]
          exact hB' _ ⟨⟨[], by simp⟩, ids_ty _ _, .inl rfl⟩
        simp only [go_sem, reduceCtorEq, Nat.reduceAdd, Nat.reduceMul, Nat.reduceLeDiff, Nat.reduceLT, Int.reduceLE, Int.reduceLT, Int.reduceEq, Nat.reduceBEq, Nat.reduceEqDiff]
        refine hUR _ (fun e' s7 B2 w1 w2 w3 => ?_)
        have hd := un_det u1 w1
        have c3 : (e != e') = false := by rw [hd.1]; exact bne_self_eq_false _
        have hall' : AllI (e == 0) (ws.take (k + 1)) B' := fun h0 => by
            have he0 : e = 0 := by simpa using h0
            rw [htk]
            exact (hall rfl).snoc u2.rg.bg (by rw [he0] at u1; exact u1)
        have hR7 : RS s7 (p + 2) B' := by rw [hd.2]; exact w2
        have hlen7 : p + 7 ≤ s7.length := by have := u3.gs.len; have := w3.len; omega
        simp only [go_sem, reduceCtorEq, Nat.reduceAdd, Nat.reduceMul, Nat.reduceLeDiff, Nat.reduceLT, Int.reduceLE, Int.reduceLT, Int.reduceEq, Nat.reduceBEq, Nat.reduceEqDiff, c3, hw]
        refine ⟨m - 1, _, by omega, ?_, k + 1, e == 0, mid', B', by omega, hall', w3.es u2 (by omega), hR7, w3.es hF6 (by omega), by omega, hlen7, rfl⟩
        repeat (first | exact leEnv_nil | refine leEnv_any _ ?_ | refine leEnv_same _ ?_ | refine leEnv_norm _ ?_)
      | false =>
        simp only [go_sem, reduceCtorEq, Nat.reduceAdd, Nat.reduceMul, Nat.reduceLeDiff, Nat.reduceLT, Int.reduceLE, Int.reduceLT, Int.reduceEq, Nat.reduceBEq, Nat.reduceEqDiff, c1]
        refine awp_drawN [] 13 Tryd.mixed rfl rfl ?_
        simp only [go_sem, reduceCtorEq, Nat.reduceAdd, Nat.reduceMul, Nat.reduceLeDiff, Nat.reduceLT, Int.reduceLE, Int.reduceLT, Int.reduceEq, Nat.reduceBEq, Nat.reduceEqDiff, c1, c0, hgk]
        refine ⟨tySV a, ?_, ?_⟩
        · simp only [go_sem, reduceCtorEq, Nat.reduceAdd, Nat.reduceMul, Nat.reduceLeDiff, Nat.reduceLT, Int.reduceLE, Int.reduceLT, Int.reduceEq, Nat.reduceBEq, Nat.reduceEqDiff]
          exact hA _ s ⟨⟨[], by simp⟩, ids_ty _ _, .inl rfl⟩
        simp only [go_sem, reduceCtorEq, Nat.reduceAdd, Nat.reduceMul, Nat.reduceLeDiff, Nat.reduceLT, Int.reduceLE, Int.reduceLT, Int.reduceEq, Nat.reduceBEq, Nat.reduceEqDiff, c1, c0, hgk]
        refine ⟨tySV b, ?_, ?_⟩
        · simp only [go_sem, reduceCtorEq, Nat.reduceAdd, Nat.reduceMul, Nat.reduceLeDiff, Nat.reduceLT, Int.reduceLE, Int.reduceLT, Int.reduceEq, Nat.reduceBEq, Nat.reduceEqDiff]
          exact hBc _ s ⟨⟨[], by simp⟩, ids_ty _ _, .inl rfl⟩
        simp only [go_sem, reduceCtorEq, Nat.reduceAdd, Nat.reduceMul, Nat.reduceLeDiff, Nat.reduceLT, Int.reduceLE, Int.reduceLT, Int.reduceEq, Nat.reduceBEq, Nat.reduceEqDiff]
        refine hUE _ (fun e s6 mid' B' u1 u2 u3 u4 => ?_)
        have hUR := fun K h => uniR_c (u3.rs hR (by omega)) a b na nb K h
        have hA' := fun K h => hA K s6 h
        have hB' := fun K h => hBc K s6 h
        have hF6 := u3.es hF (by omega) (Ne.symm hm)
        simp only [go_sem, reduceCtorEq, Nat.reduceAdd, Nat.reduceMul, Nat.reduceLeDiff, Nat.reduceLT, Int.reduceLE, Int.reduceLT, Int.reduceEq, Nat.reduceBEq, Nat.reduceEqDiff]
        refine awp_drawN [] 13 Tryd.mixed rfl rfl ?_
        simp only [go_sem, reduceCtorEq, Nat.reduceAdd, Nat.reduceMul, Nat.reduceLeDiff, Nat.reduceLT, Int.reduceLE, Int.reduceLT, Int.reduceEq, Nat.reduceBEq, Nat.reduceEqDiff, c1, c0, hgk]
        refine ⟨tySV a, ?_, ?_⟩
        · simp only [go_sem, reduceCtorEq, Nat.reduceAdd, Nat.reduceMul, Nat.reduceLeDiff, Nat.reduceLT, Int.reduceLE, Int.reduceLT, Int.reduceEq, Nat.reduceBEq, Nat.reduceEqDiff]
          exact hA' _ ⟨⟨[], by simp⟩, ids_ty _ _, .inl rfl⟩
        simp only [go_sem, reduceCtorEq, Nat.reduceAdd, Nat.reduceMul, Nat.reduceLeDiff, Nat.reduceLT, Int.reduceLE, Int.reduceLT, Int.reduceEq, Nat.reduceBEq, Nat.reduceEqDiff, c1, c0, hgk]
        refine ⟨tySV b, ?_, ?_⟩
        · simp only [go_sem, reduceCtorEq, Nat.reduceAdd, Nat.reduceMul, Nat.reduceLeDiff, Nat.reduceLT, Int.reduceLE, Int.reduceLT, Int.reduceEq, Nat.reduceBEq, Nat.reduceEqDiff]
          exact hB' _ ⟨⟨[], by simp⟩, ids_ty _ _, .inl rfl⟩
        simp only [go_sem, reduceCtorEq, Nat.reduceAdd, Nat.reduceMul, Nat.reduceLeDiff, Nat.reduceLT, Int.reduceLE, Int.reduceLT, Int.reduceEq, Nat.reduceBEq, Nat.reduceEqDiff]
        refine hUR _ (fun e' s7 B2 w1 w2 w3 => ?_)
        have hd := un_det u1 w1
        have c3 : (e != e') = false := by rw [hd.1]; exact bne_self_eq_false _
        have hall' : AllI false (ws.take (k + 1)) B' := fun h0 => by cases h0
        have hR7 : RS s7 (p + 2) B' := by rw [hd.2]; exact w2
        have hlen7 : p + 7 ≤ s7.length := by have := u3.gs.len; have := w3.len; omega
        simp only [go_sem, reduceCtorEq, Nat.reduceAdd, Nat.reduceMul, Nat.reduceLeDiff, Nat.reduceLT, Int.reduceLE, Int.reduceLT, Int.reduceEq, Nat.reduceBEq, Nat.reduceEqDiff, c3, hw]
        refine ⟨m - 1, _, by omega, ?_, k + 1, false, mid', B', by omega, hall', w3.es u2 (by omega), hR7, w3.es hF6 (by omega), by omega, hlen7, rfl⟩
        repeat (first | exact leEnv_nil | refine leEnv_any _ ?_ | refine leEnv_same _ ?_ | refine leEnv_norm _ ?_)
    · obtain rfl : k = qs.length := by omega
      rw [← hwl, List.take_length] at hall
      simp only [go_sem, reduceCtorEq, Nat.reduceAdd, Nat.reduceMul, Nat.reduceLeDiff, Nat.reduceLT, Int.reduceLE, Int.reduceLT, Int.reduceEq, Nat.reduceBEq, Nat.reduceEqDiff, Int.lt_irrefl]
      refine ⟨all, mid1, B, ?_, hall, hE, hF, hm, hE.lt.2⟩
      repeat (first | exact leEnv_nil | refine leEnv_any _ ?_ | refine leEnv_same _ ?_ | refine leEnv_norm _ ?_)
  rintro e env s6 ⟨rfl, all, mid1, S, hle, hall, hE6, hF6, hm6, hml⟩
  show AWp _ _ _ _ _
  refine awp_weaken hle ?_
  clear hle env
  cases all with
  | false =>
    refine awp_c (M := []) ?_
    simp only [go_sem, reduceCtorEq, Nat.reduceAdd, Nat.reduceMul, Nat.reduceLeDiff, Nat.reduceLT, Int.reduceLE, Int.reduceLT, Int.reduceEq, Nat.reduceBEq, Nat.reduceEqDiff]
    refine lives_c ?_
    simp only [go_sem, reduceCtorEq, Nat.reduceAdd, Nat.reduceMul, Nat.reduceLeDiff, Nat.reduceLT, Int.reduceLE, Int.reduceLT, Int.reduceEq, Nat.reduceBEq, Nat.reduceEqDiff]
    exact h _
  | true =>
  have hrun := hall rfl
  refine awp_seq (AWp.mono (Q := fun e env s' => e = .normal ∧ LeEnv env [.slice .imm 6 (qs.map prT), .any, .any, .ptr (p + 1) 0, .any, .ptr (p + 6) 0, .any, .any, .any, .any, .any, .any, .any, .any, .any, .any, .any, .any, .any, .any, .any, .any, .any, .any, .any, .any, .any, .any, .any, .any, .any, .any, .any, .any, .any, .any, .any, .any, .any, .any, .any, .any, .any, .any, .any, .any, .any, .any, .any, .any, .any, .any, .any, .any, .any, .any, .any, .any, .any, .any, .any, .any, .any, .any, .any, .any, .any, .any, .any, .any, .any, .any, .any, .any, .any, .any, .any, .any, .any, .any, .any, .any, .any, .any, .any, .any, .any, .any, .any, .any, .any, .any, .any, .any, .any, .any, .any, .any, .any, .any, .any, .any, .any, .any, .any, .any, .any, .any, .any, .any, .any, .any, .any, .any, .any, .any, .any] ∧ s' = s6) ?_ ?_)
  · refine awp_c (M := []) ?_
    simp only [go_sem, reduceCtorEq, Nat.reduceAdd, Nat.reduceMul, Nat.reduceLeDiff, Nat.reduceLT, Int.reduceLE, Int.reduceLT, Int.reduceEq, Nat.reduceBEq, Nat.reduceEqDiff]
    repeat (first | exact leEnv_nil | refine leEnv_any _ ?_ | refine leEnv_same _ ?_ | refine leEnv_norm _ ?_)
  rintro e env s7 ⟨rfl, hle, rfl⟩
  show AWp _ _ _ _ _
  refine awp_weaken hle ?_
  clear hle env
  refine awp_c (M := []) ?_
  have hw0 : IntKind.i64.wrap ((qs.length : Int) - 1) = (qs.length : Int) - 1 := IntWalk.i64_in _ (by omega)
  simp only [go_sem, reduceCtorEq, Nat.reduceAdd, Nat.reduceMul, Nat.reduceLeDiff, Nat.reduceLT, Int.reduceLE, Int.reduceLT, Int.reduceEq, Nat.reduceBEq, Nat.reduceEqDiff, hw0]
  refine awp_rounds [] (fun m e s => ∃ (i : Nat) (mid2 : Nat) (T : Bd), m = i ∧ i ≤ qs.length ∧ Run 6 B0 (((ws.drop i).reverse).map fun q => (q.2, q.1)) T ∧ ES s (p + 1) mid1 S ∧ ES s (p + 6) mid2 T ∧ mid1 ≠ mid2 ∧
    e = [.slice .imm 6 (qs.map prT), .any, .any, .ptr (p + 1) 0, .any, .ptr (p + 6) 0, .any, .any, .any, .any, .any, .sc (.int .i64 ((i : Int) - 1)), .any, .any, .any, .any, .any, .any, .any, .any, .any, .any, .any, .any, .any, .any, .any, .any, .any, .any, .any, .any, .any, .any, .any, .any, .any, .any, .any, .any, .any, .any, .any, .any, .any, .any, .any, .any, .any, .any, .any, .any, .any, .any, .any, .any, .any, .any, .any, .any, .any, .any, .any, .any, .any, .any, .any, .any, .any, .any, .any, .any, .any, .any, .any, .any, .any, .any, .any, .any, .any, .any, .any, .any, .any, .any, .any, .any, .any, .any, .any, .any, .any, .any, .any, .any, .any, .any, .any, .any, .any, .any, .any, .any, .any, .any, .any, .any, .any, .any, .any, .any, .any, .any, .any, .any, .any]) (n := qs.length) ?_ ⟨qs.length, p + 5, B0, rfl, Nat.le_refl _, by rw [← hwl, List.drop_length]; exact .nil, hE6, hF6, hm6, rfl⟩ ?_
  · repeat (first | exact leEnv_nil | refine leEnv_any _ ?_ | refine leEnv_same _ ?_ | refine leEnv_norm _ ?_)
  rintro m e s ⟨i, mid2, T, rfl, hil, hrT, hE, hF, hm, rfl⟩
  cases m with
  | zero =>
    have c1 : ((0 : Int) ≤ ((0 : Nat) : Int) - 1) = False := eq_false (by omega)
    rw [List.drop_zero] at hrT
    have hsol := two_runs rg0.bg (fun _ => rfl) hrun hrT
    have hsh := order_show hE.rg.bg hF.rg.bg hsol.1 hsol.2 six_good
    have i1 := fun K h => apE_c hE sixT K h
    have i2 := fun K h => Show_c (ApT 6 S sixT) (shOk_ap hE.rg six_nm) K s h
    have i3 := fun K h => apE_c hF sixT K h
    have i4 := fun K h => Show_c (ApT 6 T sixT) (shOk_ap hF.rg six_nm) K s h
    rw [hsh] at i2
    have hq : ((showA (ApT 6 T sixT)).toList == (showA (ApT 6 T sixT)).toList) = true := beq_self_eq_true _
    simp only [go_sem, reduceCtorEq, Nat.reduceAdd, Nat.reduceMul, Nat.reduceLeDiff, Nat.reduceLT, Int.reduceLE, Int.reduceLT, Int.reduceEq, Nat.reduceBEq, Nat.reduceEqDiff, c1]
    refine six_c _ _ ?_
    simp only [go_sem, reduceCtorEq, Nat.reduceAdd, Nat.reduceMul, Nat.reduceLeDiff, Nat.reduceLT, Int.reduceLE, Int.reduceLT, Int.reduceEq, Nat.reduceBEq, Nat.reduceEqDiff]
    refine i1 _ ?_
    simp only [go_sem, reduceCtorEq, Nat.reduceAdd, Nat.reduceMul, Nat.reduceLeDiff, Nat.reduceLT, Int.reduceLE, Int.reduceLT, Int.reduceEq, Nat.reduceBEq, Nat.reduceEqDiff]
    refine i2 _ ?_
    simp only [go_sem, reduceCtorEq, Nat.reduceAdd, Nat.reduceMul, Nat.reduceLeDiff, Nat.reduceLT, Int.reduceLE, Int.reduceLT, Int.reduceEq, Nat.reduceBEq, Nat.reduceEqDiff]
    refine six_c _ _ ?_
    simp only [go_sem, reduceCtorEq, Nat.reduceAdd, Nat.reduceMul, Nat.reduceLeDiff, Nat.reduceLT, Int.reduceLE, Int.reduceLT, Int.reduceEq, Nat.reduceBEq, Nat.reduceEqDiff]
    refine i3 _ ?_
    simp only [go_sem, reduceCtorEq, Nat.reduceAdd, Nat.reduceMul, Nat.reduceLeDiff, Nat.reduceLT, Int.reduceLE, Int.reduceLT, Int.reduceEq, Nat.reduceBEq, Nat.reduceEqDiff]
    refine i4 _ ?_
    simp only [go_sem, reduceCtorEq, Nat.reduceAdd, Nat.reduceMul, Nat.reduceLeDiff, Nat.reduceLT, Int.reduceLE, Int.reduceLT, Int.reduceEq, Nat.reduceBEq, Nat.reduceEqDiff, hq]
    refine lives_c ?_
    simp only [go_sem, reduceCtorEq, Nat.reduceAdd, Nat.reduceMul, Nat.reduceLeDiff, Nat.reduceLT, Int.reduceLE, Int.reduceLT, Int.reduceEq, Nat.reduceBEq, Nat.reduceEqDiff, hq]
    exact h _
  | succ k =>
    have c1 : ((0 : Int) ≤ ((k + 1 : Nat) : Int) - 1) = True := eq_true (by omega)
    have hk1 : ((k + 1 : Nat) : Int) - 1 = (k : Int) := by omega
    have c0 : ((0 : Int) ≤ (k : Int)) := by omega
    have hlt : k < qs.length := by omega
    have c2 : ((k : Int) < (qs.length : Int)) := by omega
    have hw : IntKind.i64.wrap ((k : Int) - 1) = (k : Int) - 1 := IntWalk.i64_in _ (by omega)
    obtain ⟨q, hq⟩ : ∃ q, qs.getD k (default, default) = q := ⟨_, rfl⟩
    have hgk : (qs.map prT).getD k .any = .agg [.sc (.int .i64 q.1.v), .sc (.string q.1.name), .slice .imm 3 (q.1.args.map tySV), .sc (.int .i64 q.2.v), .sc (.string q.2.name), .slice .imm 3 (q.2.args.map tySV)] := by
      rw [getD_prT hlt, hq]
      show SV.agg ((tySV q.1).cells ++ (tySV q.2).cells) = _
      rw [cells_ty, cells_ty]; rfl
    have hA := fun K s h => cut_c 6 (by omega) q.1 K s h
    have hBc := fun K s h => cut_c 6 (by omega) q.2 K s h
    obtain ⟨a, ha⟩ : ∃ a, cutT 6 q.1 = a := ⟨_, rfl⟩
    obtain ⟨b, hb⟩ : ∃ b, cutT 6 q.2 = b := ⟨_, rfl⟩
    have na : nmB a = true := by rw [← ha]; exact cut_nm _ _
    have nb : nmB b = true := by rw [← hb]; exact cut_nm _ _
    have hkw : k < ws.length := by omega
    have hwk : ws[k]'hkw = (a, b) := by
      have hq2 : qs[k]'hlt = q := by simpa [List.getD_eq_getElem?_getD, hlt] using hq
      simp only [hws, List.getElem_map, hq2, cut2, ha, hb]
    have hmem : (a, b) ∈ ws := by rw [← hwk]; exact List.getElem_mem _
    have hdr : ((ws.drop k).reverse).map (fun q : Ty × Ty => (q.2, q.1)) = ((ws.drop (k + 1)).reverse).map (fun q : Ty × Ty => (q.2, q.1)) ++ [(b, a)] := by
      rw [List.drop_eq_getElem_cons hkw, hwk]; simp
    have hcan : ∀ (e : Int) T', UnR 6 T b a e T' → e = 0 ∨ e = 1 := fun e T' hu => run_can (q := (a, b)) hrun hrT (fun z hz => List.mem_of_mem_drop (List.mem_reverse.1 hz)) hmem hu
    rw [ha, tySV_eq q.1] at hA
    rw [hb, tySV_eq q.2] at hBc
    have hUE := fun K h => uniE_c hF b a nb na K h
    have hltE := hE.lt
    have h11 : ((1 : Int) == 1) = true := rfl
    have h10 : ((1 : Int) != 0) = true := rfl
    have h00 : ((0 : Int) != 0) = false := rfl
    simp only [go_sem, reduceCtorEq, Nat.reduceAdd, Nat.reduceMul, Nat.reduceLeDiff, Nat.reduceLT, Int.reduceLE, Int.reduceLT, Int.reduceEq, Nat.reduceBEq, Nat.reduceEqDiff, c1, hk1]
    refine awp_drawN [] 13 Tryd.mixed rfl rfl ?_
    simp only [go_sem, reduceCtorEq, Nat.reduceAdd, Nat.reduceMul, Nat.reduceLeDiff, Nat.reduceLT, Int.reduceLE, Int.reduceLT, Int.reduceEq, Nat.reduceBEq, Nat.reduceEqDiff, c2, c0, hgk]
    refine ⟨tySV b, ?_, ?_⟩
    · simp only [go_sem, reduceCtorEq, Nat.reduceAdd, Nat.reduceMul, Nat.reduceLeDiff, Nat.reduceLT, Int.reduceLE, Int.reduceLT, Int.reduceEq, Nat.reduceBEq, Nat.reduceEqDiff]
      exact hBc _ s ⟨⟨[], by simp⟩, ids_ty _ _, .inl rfl⟩
    simp only [go_sem, reduceCtorEq, Nat.reduceAdd, Nat.reduceMul, Nat.reduceLeDiff, Nat.reduceLT, Int.reduceLE, Int.reduceLT, Int.reduceEq, Nat.reduceBEq, Nat.reduceEqDiff, c2, c0, hgk]
    refine ⟨tySV a, ?_, ?_⟩
    · simp only [go_sem, reduceCtorEq, Nat.reduceAdd, Nat.reduceMul, Nat.reduceLeDiff, Nat.reduceLT, Int.reduceLE, Int.reduceLT, Int.reduceEq, Nat.reduceBEq, Nat.reduceEqDiff]
      exact hA _ s ⟨⟨[], by simp⟩, ids_ty _ _, .inl rfl⟩
    simp only [go_sem, reduceCtorEq, Nat.reduceAdd, Nat.reduceMul, Nat.reduceLeDiff, Nat.reduceLT, Int.reduceLE, Int.reduceLT, Int.reduceEq, Nat.reduceBEq, Nat.reduceEqDiff]
    refine hUE _ (fun e s8 mid' T' u1 u2 u3 u4 => ?_)
    rcases hcan e T' u1 with he | he
    · subst he
      simp only [go_sem, reduceCtorEq, Nat.reduceAdd, Nat.reduceMul, Nat.reduceLeDiff, Nat.reduceLT, Int.reduceLE, Int.reduceLT, Int.reduceEq, Nat.reduceBEq, Nat.reduceEqDiff, h00, hw]
      refine ⟨k, _, by omega, ?_, k, mid', T', rfl, by omega, by rw [hdr]; exact hrT.snoc u2.rg.bg u1, u3.es hE (by omega) hm, u2, by omega, rfl⟩
      repeat (first | exact leEnv_nil | refine leEnv_any _ ?_ | refine leEnv_same _ ?_ | refine leEnv_norm _ ?_)
    · subst he
      simp only [go_sem, reduceCtorEq, Nat.reduceAdd, Nat.reduceMul, Nat.reduceLeDiff, Nat.reduceLT, Int.reduceLE, Int.reduceLT, Int.reduceEq, Nat.reduceBEq, Nat.reduceEqDiff, h10, h11]
      refine lives_c ?_
      simp only [go_sem, reduceCtorEq, Nat.reduceAdd, Nat.reduceMul, Nat.reduceLeDiff, Nat.reduceLT, Int.reduceLE, Int.reduceLT, Int.reduceEq, Nat.reduceBEq, Nat.reduceEqDiff, h10, h11]
      exact h _

end Go.Proofs
