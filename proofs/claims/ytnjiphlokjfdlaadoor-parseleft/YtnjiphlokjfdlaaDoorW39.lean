/- ParseLeft. -/
import Derived.Test.YtnjiphlokjfdlaaDoorW36
import Derived.Test.YtnjiphlokjfdlaaDoorW36b
import Derived.Test.YtnjiphlokjfdlaaDoorM5
set_option linter.unusedSimpArgs false
set_option linter.unusedVariables false
set_option maxRecDepth 8000
namespace Go.Proofs
open Go Go.AL
def sgSV : List SV := [.sc (.string ⟨#[43]⟩), .sc (.string ⟨#[45]⟩), .sc (.string ⟨#[94]⟩), .sc (.string ⟨#[42]⟩), .sc (.string ⟨#[47]⟩), .sc (.string ⟨#[37]⟩), .sc (.string ⟨#[61]⟩)]
def loSV : List SV := [.sc (.int .i64 1), .sc (.int .i64 1), .sc (.int .i64 1), .sc (.int .i64 2), .sc (.int .i64 2), .sc (.int .i64 2), .sc (.int .i64 0)]
theorem sgSV_len : sgSV.length = 7 := rfl
theorem loSV_len : loSV.length = 7 := rfl
theorem sgSV_get : ∀ k, k < 7 → sgSV.getD k .any = .sc (.string (ba (sg k)))
  | 0, _ => rfl
  | 1, _ => rfl
  | 2, _ => rfl
  | 3, _ => rfl
  | 4, _ => rfl
  | 5, _ => rfl
  | 6, _ => rfl
theorem loSV_get : ∀ k, k < 7 → loSV.getD k .any = .sc (.int .i64 (loose k))
  | 0, _ => rfl
  | 1, _ => rfl
  | 2, _ => rfl
  | 3, _ => rfl
  | 4, _ => rfl
  | 5, _ => rfl
  | 6, _ => rfl
theorem sg_len : ∀ k, k < 7 → (sg k).length = 1
  | 0, _ => rfl
  | 1, _ => rfl
  | 2, _ => rfl
  | 3, _ => rfl
  | 4, _ => rfl
  | 5, _ => rfl
  | 6, _ => rfl
theorem two_of {f : Nd → Nd → Nd → Bool} {n : Nd} (h : two f n = true) : ∃ top l r, n.kids = [top] ∧ top.kids = [l, r] ∧ f top l r = true := by
  unfold two at h
  cases hk : n.kids with
  | nil => rw [hk] at h; cases h
  | cons top rest =>
    rw [hk] at h
    cases rest with
    | cons _ _ => cases h
    | nil =>
      cases hk2 : top.kids with
      | nil => simp only [hk2] at h; cases h
      | cons l r1 =>
        simp only [hk2] at h
        cases r1 with
        | nil => cases h
        | cons r r2 =>
          cases r2 with
          | nil => exact ⟨top, l, r, rfl, hk2, h⟩
          | cons _ _ => cases h
/-- The second half: what is asked of products that are called. -/
theorem chk2_of {k : Nat} (h : chk2 k = true) : ∃ n a, programF (src2 k) = some (n, a, 0) ∧ ∃ top l r, n.kids = [top] ∧ top.kids = [l, r] ∧ l.kind = 7 ∧ r.kind = 7 := by
  unfold chk2 at h
  cases hp : programF (src2 k) with
  | none => rw [hp] at h; cases h
  | some y =>
    obtain ⟨n, a, e⟩ := y
    rw [hp] at h
    simp only [Bool.and_eq_true, beq_iff_eq] at h
    obtain ⟨rfl, h2⟩ := h
    obtain ⟨top, l, r, h3, h4, h5⟩ := two_of h2
    simp only [Bool.and_eq_true, beq_iff_eq] at h5
    exact ⟨n, a, rfl, top, l, r, h3, h4, h5⟩
theorem wrap_1 (i j : Nat) : (⟨#[100, 111, 32, 120, 32]⟩ ++ ba (sg i) ++ ⟨#[32, 121, 32]⟩ ++ ba (sg j) ++ ⟨#[32, 122]⟩ : ByteArray) = ba (src1 i j) := by
  rw [show (⟨#[100, 111, 32, 120, 32]⟩ : ByteArray) = ba [100, 111, 32, 120, 32] from rfl, show (⟨#[32, 121, 32]⟩ : ByteArray) = ba [32, 121, 32] from rfl, show (⟨#[32, 122]⟩ : ByteArray) = ba [32, 122] from rfl, ba_app, ba_app, ba_app, ba_app]; rfl
theorem wrap_2 (k : Nat) : (⟨#[100, 111, 32, 102, 32, 120, 32]⟩ ++ ba (sg k) ++ ⟨#[32, 103, 32, 121]⟩ : ByteArray) = ba (src2 k) := by
  rw [show (⟨#[100, 111, 32, 102, 32, 120, 32]⟩ : ByteArray) = ba [100, 111, 32, 102, 32, 120, 32] from rfl, show (⟨#[32, 103, 32, 121]⟩ : ByteArray) = ba [32, 103, 32, 121] from rfl, ba_app, ba_app]; rfl
theorem src1_len {i j : Nat} (hi : i < 7) (hj : j < 7) : (src1 i j).length ≤ 100000 := by
  unfold src1; simp only [List.length_append, List.length_cons, List.length_nil, sg_len i hi, sg_len j hj]; omega
theorem src2_len {k : Nat} (hk : k < 7) : (src2 k).length ≤ 100000 := by
  unfold src2; simp only [List.length_append, List.length_cons, List.length_nil, sg_len k hk]; omega
set_option maxHeartbeats 4000000 in
/-- Two comparisons are refused. -/
theorem leftE_c {gid : Nat} {m : Int} {K : SV → St → Prop} {st : St} (hg : GAt gid m st) {a b c : Int} (ha : -9223372036854775808 ≤ a ∧ a ≤ 9223372036854775807) (hb : -9223372036854775808 ≤ b ∧ b ≤ 9223372036854775807) (hc : -9223372036854775808 ≤ c ∧ c ≤ 9223372036854775807)
    {i j k : Nat} (hi : pickF a (7 : Nat) = i) (hj : pickF b (7 : Nat) = j) (hkk : pickF c (6 : Nat) = k) (hi7 : i < 7) (hj7 : j < 7) (hk6 : k < 6)
    (h66 : i = 6 ∧ j = 6) {n : Nd} {p e : Int} (he : e = 14) (hp : programF (src1 i j) = some (n, p, e)) (hk : K (.sc (.bool true)) st) : ACalls Tryd.prog 3 [.sc (.int .i64 a), .sc (.int .i64 b), .sc (.int .i64 c)] K st := by
  refine acalls_go_pure [] Tryd.func3 rfl Tryd.results3 Tryd.ntmps3 ?_
  have hs1 := sgSV_get i hi7
  have hs2 := sgSV_get j hj7
  have hs3 := sgSV_get k (by omega)
  have ho1 := loSV_get i hi7
  have ho2 := loSV_get j hj7
  have hl1 := sg_len i hi7
  have hl2 := sg_len j hj7
  have hl3 := sg_len k (by omega)
  unfold sgSV at hs1 hs2 hs3
  unfold loSV at ho1 ho2
  have c66 : ((i : Int) == 6) = true := by rw [beq_iff_eq]; omega
  have d66 : ((j : Int) == 6) = true := by rw [beq_iff_eq]; omega
  have ce : (e == 14) = true := by rw [beq_iff_eq]; exact he
  simp -implicitDefEqProofs (maxSteps := 3000000) only [go_sem, reduceCtorEq, Nat.reduceAdd, Nat.reduceMul, Nat.reduceLeDiff, Nat.reduceLT, Int.reduceLE, Int.reduceLT, Int.reduceEq, Nat.reduceBEq, Nat.reduceEqDiff]
  refine pick_c ha (n := 7) (by decide) (by decide) hi ?_
  simp -implicitDefEqProofs (maxSteps := 3000000) only [go_sem, reduceCtorEq, Nat.reduceAdd, Nat.reduceMul, Nat.reduceLeDiff, Nat.reduceLT, Int.reduceLE, Int.reduceLT, Int.reduceEq, Nat.reduceBEq, Nat.reduceEqDiff]
  refine pick_c hb (n := 7) (by decide) (by decide) hj ?_
  simp -implicitDefEqProofs (maxSteps := 3000000) only [go_sem, reduceCtorEq, Nat.reduceAdd, Nat.reduceMul, Nat.reduceLeDiff, Nat.reduceLT, Int.reduceLE, Int.reduceLT, Int.reduceEq, Nat.reduceBEq, Nat.reduceEqDiff]
  refine pick_c hc (n := 6) (by decide) (by decide) hkk ?_
  simp -implicitDefEqProofs (maxSteps := 3000000) only [go_sem, reduceCtorEq, Nat.reduceAdd, Nat.reduceMul, Nat.reduceLeDiff, Nat.reduceLT, Int.reduceLE, Int.reduceLT, Int.reduceEq, Nat.reduceBEq, Nat.reduceEqDiff]
  refine awp_drawW [] [(0, [18]), (0, [18]), (0, [18]), (0, [18]), (0, [18]), (0, [18]), (0, [18]), (0, [18]), (0, [18]), (0, [18]), (0, [18]), (0, [18]), (0, [18]), (0, [18]), (0, [18]), (0, [18, 21]), (0, [18, 21]), (3, [18]), (1, [21]), (0, []), (0, [])] Tryd.mixed rfl ?_
  simp -implicitDefEqProofs (maxSteps := 3000000) only [go_sem, reduceCtorEq, Nat.reduceAdd, Nat.reduceMul, Nat.reduceLeDiff, Nat.reduceLT, Int.reduceLE, Int.reduceLT, Int.reduceEq, Nat.reduceBEq, Nat.reduceEqDiff, drawW_n, drawW_0, drawW_1, drawW_2, drawW_3, pend_n, pend_c, headD_c, isStore_s, hs1, hs2, ba_size, hl1, hl2]
  refine ⟨by omega, by omega, ?_⟩
  rw [dk_eff]
  refine ⟨.tuple [ndSV n, .sc (.int .i64 p), .sc (.int .i64 e)], ?_, ?_⟩
  · simp -implicitDefEqProofs (maxSteps := 3000000) only [go_sem, reduceCtorEq, Nat.reduceAdd, Nat.reduceMul, Nat.reduceLeDiff, Nat.reduceLT, Int.reduceLE, Int.reduceLT, Int.reduceEq, Nat.reduceBEq, Nat.reduceEqDiff]
    refine parseR2 hp (wrap_1 i j) hg (src1_len hi7 hj7) ⟨⟨[], by simp⟩, ids_nds3 _ _ _ _ (ids_nd _ _), .inl rfl⟩
  simp -implicitDefEqProofs (maxSteps := 3000000) only [go_sem, reduceCtorEq, Nat.reduceAdd, Nat.reduceMul, Nat.reduceLeDiff, Nat.reduceLT, Int.reduceLE, Int.reduceLT, Int.reduceEq, Nat.reduceBEq, Nat.reduceEqDiff, drawW_n, drawW_0, drawW_1, drawW_2, drawW_3, pend_n, pend_c, headD_c, isStore_s, c66, d66, ce]
  refine ⟨_, _, ⟨rfl, rfl⟩, ⟨?_, by omega, by omega⟩, ?_⟩
  · rw [dk_eff]
    refine ⟨_, ?_, rfl⟩
    simp -implicitDefEqProofs (maxSteps := 3000000) only [go_sem, reduceCtorEq, Nat.reduceAdd, Nat.reduceMul, Nat.reduceLeDiff, Nat.reduceLT, Int.reduceLE, Int.reduceLT, Int.reduceEq, Nat.reduceBEq, Nat.reduceEqDiff]
    exact parseR2 hp (wrap_1 i j) (gat_app hg) (src1_len hi7 hj7) ⟨⟨[], by simp⟩, ids_nds3 _ _ _ _ (ids_nd _ _), .inl rfl⟩
  simp -implicitDefEqProofs (maxSteps := 3000000) only [go_sem, reduceCtorEq, Nat.reduceAdd, Nat.reduceMul, Nat.reduceLeDiff, Nat.reduceLT, Int.reduceLE, Int.reduceLT, Int.reduceEq, Nat.reduceBEq, Nat.reduceEqDiff, drawW_n, drawW_0, drawW_1, drawW_2, drawW_3, pend_n, pend_c, headD_c, isStore_s, c66, d66, ce]
  first | (unfold ACallsH; simp only [put_some, put_none', ev_tmp, List.set_cons_succ, List.set_cons_zero, List.getD_cons_succ, List.getD_cons_zero]) | skip
  refine lives_c (gat_app hg) ?_
  simp -implicitDefEqProofs (maxSteps := 3000000) only [go_sem, reduceCtorEq, Nat.reduceAdd, Nat.reduceMul, Nat.reduceLeDiff, Nat.reduceLT, Int.reduceLE, Int.reduceLT, Int.reduceEq, Nat.reduceBEq, Nat.reduceEqDiff, ce]
  exact fin_pure (ids_scv _ _) hk
set_option maxHeartbeats 4000000 in
theorem leftL_c {gid : Nat} {m : Int} {K : SV → St → Prop} {st : St} (hg : GAt gid m st) {a b c : Int} (ha : -9223372036854775808 ≤ a ∧ a ≤ 9223372036854775807) (hb : -9223372036854775808 ≤ b ∧ b ≤ 9223372036854775807) (hc : -9223372036854775808 ≤ c ∧ c ≤ 9223372036854775807)
    {i j k : Nat} (hi : pickF a (7 : Nat) = i) (hj : pickF b (7 : Nat) = j) (hkk : pickF c (6 : Nat) = k) (hi7 : i < 7) (hj7 : j < 7) (hk6 : k < 6)
    (h66 : ¬ (i = 6 ∧ j = 6)) (hL : decide (loose j ≤ loose i) = true) {l r n top : Nd} {p e : Int} (he : e = 0) (hn : n.kids = [top]) (ht : top.kids = [l, r]) (hT : top.text = sg j) (hS : l.text = sg i)
    (hp : programF (src1 i j) = some (n, p, e)) {n2 : Nd} {p2 : Int} (hp2 : programF (src2 k) = some (n2, p2, 0)) {l2 r2 top2 : Nd} (hn2 : n2.kids = [top2]) (ht2 : top2.kids = [l2, r2]) (hl7 : l2.kind = 7) (hr7 : r2.kind = 7)
    (hk : K (.sc (.bool true)) st) : ACalls Tryd.prog 3 [.sc (.int .i64 a), .sc (.int .i64 b), .sc (.int .i64 c)] K st := by
  refine acalls_go_pure [] Tryd.func3 rfl Tryd.results3 Tryd.ntmps3 ?_
  have hs1 := sgSV_get i hi7
  have hs2 := sgSV_get j hj7
  have hs3 := sgSV_get k (by omega)
  have ho1 := loSV_get i hi7
  have ho2 := loSV_get j hj7
  have hl1 := sg_len i hi7
  have hl2 := sg_len j hj7
  have hl3 := sg_len k (by omega)
  unfold sgSV at hs1 hs2 hs3
  unfold loSV at ho1 ho2
  have c66 : (((i : Int) == 6) && ((j : Int) == 6)) = false := by
    rw [Bool.and_eq_false_iff, beq_eq_false_iff_ne, beq_eq_false_iff_ne]; omega
  have ce : (e != 0) = false := by rw [he]; rfl
  have cL := hL
  simp -implicitDefEqProofs (maxSteps := 3000000) only [go_sem, reduceCtorEq, Nat.reduceAdd, Nat.reduceMul, Nat.reduceLeDiff, Nat.reduceLT, Int.reduceLE, Int.reduceLT, Int.reduceEq, Nat.reduceBEq, Nat.reduceEqDiff]
  refine pick_c ha (n := 7) (by decide) (by decide) hi ?_
  simp -implicitDefEqProofs (maxSteps := 3000000) only [go_sem, reduceCtorEq, Nat.reduceAdd, Nat.reduceMul, Nat.reduceLeDiff, Nat.reduceLT, Int.reduceLE, Int.reduceLT, Int.reduceEq, Nat.reduceBEq, Nat.reduceEqDiff]
  refine pick_c hb (n := 7) (by decide) (by decide) hj ?_
  simp -implicitDefEqProofs (maxSteps := 3000000) only [go_sem, reduceCtorEq, Nat.reduceAdd, Nat.reduceMul, Nat.reduceLeDiff, Nat.reduceLT, Int.reduceLE, Int.reduceLT, Int.reduceEq, Nat.reduceBEq, Nat.reduceEqDiff]
  refine pick_c hc (n := 6) (by decide) (by decide) hkk ?_
  simp -implicitDefEqProofs (maxSteps := 3000000) only [go_sem, reduceCtorEq, Nat.reduceAdd, Nat.reduceMul, Nat.reduceLeDiff, Nat.reduceLT, Int.reduceLE, Int.reduceLT, Int.reduceEq, Nat.reduceBEq, Nat.reduceEqDiff]
  refine awp_drawW [] [(0, [18]), (0, [18]), (0, [18]), (0, [18]), (0, [18]), (0, [18]), (0, [18]), (0, [18]), (0, [18]), (0, [18]), (0, [18]), (0, [18]), (0, [18]), (0, [18]), (0, [18]), (0, [18, 21]), (0, [18, 21]), (3, [18]), (1, [21]), (0, []), (0, [])] Tryd.mixed rfl ?_
  simp -implicitDefEqProofs (maxSteps := 3000000) only [go_sem, reduceCtorEq, Nat.reduceAdd, Nat.reduceMul, Nat.reduceLeDiff, Nat.reduceLT, Int.reduceLE, Int.reduceLT, Int.reduceEq, Nat.reduceBEq, Nat.reduceEqDiff, drawW_n, drawW_0, drawW_1, drawW_2, drawW_3, pend_n, pend_c, headD_c, isStore_s, hs1, hs2, ba_size, hl1, hl2]
  refine ⟨by omega, by omega, ?_⟩
  rw [dk_eff]
  refine ⟨.tuple [ndSV n, .sc (.int .i64 p), .sc (.int .i64 e)], ?_, ?_⟩
  · simp -implicitDefEqProofs (maxSteps := 3000000) only [go_sem, reduceCtorEq, Nat.reduceAdd, Nat.reduceMul, Nat.reduceLeDiff, Nat.reduceLT, Int.reduceLE, Int.reduceLT, Int.reduceEq, Nat.reduceBEq, Nat.reduceEqDiff]
    refine parseR2 hp (wrap_1 i j) hg (src1_len hi7 hj7) ⟨⟨[], by simp⟩, ids_nds3 _ _ _ _ (ids_nd _ _), .inl rfl⟩
  simp -implicitDefEqProofs (maxSteps := 3000000) only [go_sem, reduceCtorEq, Nat.reduceAdd, Nat.reduceMul, Nat.reduceLeDiff, Nat.reduceLT, Int.reduceLE, Int.reduceLT, Int.reduceEq, Nat.reduceBEq, Nat.reduceEqDiff, drawW_n, drawW_0, drawW_1, drawW_2, drawW_3, pend_n, pend_c, headD_c, isStore_s, c66]
  refine ⟨_, _, ⟨rfl, rfl⟩, ⟨?_, by omega, by omega⟩, ?_⟩
  · rw [dk_eff]
    refine ⟨_, ?_, rfl⟩
    simp -implicitDefEqProofs (maxSteps := 3000000) only [go_sem, reduceCtorEq, Nat.reduceAdd, Nat.reduceMul, Nat.reduceLeDiff, Nat.reduceLT, Int.reduceLE, Int.reduceLT, Int.reduceEq, Nat.reduceBEq, Nat.reduceEqDiff]
    exact parseR2 hp (wrap_1 i j) (gat_app hg) (src1_len hi7 hj7) ⟨⟨[], by simp⟩, ids_nds3 _ _ _ _ (ids_nd _ _), .inl rfl⟩
  simp -implicitDefEqProofs (maxSteps := 3000000) only [go_sem, reduceCtorEq, Nat.reduceAdd, Nat.reduceMul, Nat.reduceLeDiff, Nat.reduceLT, Int.reduceLE, Int.reduceLT, Int.reduceEq, Nat.reduceBEq, Nat.reduceEqDiff, drawW_n, drawW_0, drawW_1, drawW_2, drawW_3, pend_n, pend_c, headD_c, isStore_s, c66, cells_nd, hn, ht, List.map_cons, List.map_nil, ce, e11, e22]
  refine ⟨by decide, by decide, ?_⟩
  refine awp_draw [] Tryd.mixed rfl ?_
  simp -implicitDefEqProofs (maxSteps := 3000000) only [go_sem, reduceCtorEq, Nat.reduceAdd, Nat.reduceMul, Nat.reduceLeDiff, Nat.reduceLT, Int.reduceLE, Int.reduceLT, Int.reduceEq, Nat.reduceBEq, Nat.reduceEqDiff, ho1, ho2, ge_iff_le, cL]
  refine ⟨by omega, by omega, ?_⟩
  refine awp_draw [] Tryd.mixed rfl ?_
  simp -implicitDefEqProofs (maxSteps := 3000000) only [go_sem, reduceCtorEq, Nat.reduceAdd, Nat.reduceMul, Nat.reduceLeDiff, Nat.reduceLT, Int.reduceLE, Int.reduceLT, Int.reduceEq, Nat.reduceBEq, Nat.reduceEqDiff, cells_nd, ht, List.map_cons, List.map_nil, hs1, hs2, hT, hS, beq_self_eq_true, Bool.not_true, Bool.not_false, Bool.or_self, forall_const]
  refine ⟨by omega, by decide, by omega, ?_⟩
  refine awp_draw [] Tryd.mixed rfl ?_
  simp -implicitDefEqProofs (maxSteps := 3000000) only [go_sem, reduceCtorEq, Nat.reduceAdd, Nat.reduceMul, Nat.reduceLeDiff, Nat.reduceLT, Int.reduceLE, Int.reduceLT, Int.reduceEq, Nat.reduceBEq, Nat.reduceEqDiff, cells_nd, ht, List.map_cons, List.map_nil, hs1, hs2, hT, hS, beq_self_eq_true, Bool.not_true, Bool.not_false, Bool.or_self, forall_const]
  simp -implicitDefEqProofs (maxSteps := 3000000) only [go_sem, reduceCtorEq, Nat.reduceAdd, Nat.reduceMul, Nat.reduceLeDiff, Nat.reduceLT, Int.reduceLE, Int.reduceLT, Int.reduceEq, Nat.reduceBEq, Nat.reduceEqDiff, hs3, ba_size, hl3, wrap_2]
  refine ⟨by omega, ?_⟩
  first | (unfold ACallsH; simp only [put_some, put_none', ev_tmp, List.set_cons_succ, List.set_cons_zero, List.getD_cons_succ, List.getD_cons_zero]) | skip
  refine parseR hp2 (gat_app hg) (src2_len (by omega)) ?_
  simp -implicitDefEqProofs (maxSteps := 3000000) only [go_sem, reduceCtorEq, Nat.reduceAdd, Nat.reduceMul, Nat.reduceLeDiff, Nat.reduceLT, Int.reduceLE, Int.reduceLT, Int.reduceEq, Nat.reduceBEq, Nat.reduceEqDiff, cells_nd, hn2, ht2, List.map_cons, List.map_nil, d0n, e11, e22, hl7, hr7, beq_self_eq_true, Bool.not_true, Bool.not_false, Bool.or_self, Bool.and_self, forall_const]
  refine ⟨by decide, by decide, by decide, by decide, by decide, ?_⟩
  refine lives_c (gat_app hg) ?_
  simp -implicitDefEqProofs (maxSteps := 3000000) only [go_sem, reduceCtorEq, Nat.reduceAdd, Nat.reduceMul, Nat.reduceLeDiff, Nat.reduceLT, Int.reduceLE, Int.reduceLT, Int.reduceEq, Nat.reduceBEq, Nat.reduceEqDiff]
  exact fin_pure (ids_scv _ _) hk
set_option maxHeartbeats 4000000 in
theorem leftR_c {gid : Nat} {m : Int} {K : SV → St → Prop} {st : St} (hg : GAt gid m st) {a b c : Int} (ha : -9223372036854775808 ≤ a ∧ a ≤ 9223372036854775807) (hb : -9223372036854775808 ≤ b ∧ b ≤ 9223372036854775807) (hc : -9223372036854775808 ≤ c ∧ c ≤ 9223372036854775807)
    {i j k : Nat} (hi : pickF a (7 : Nat) = i) (hj : pickF b (7 : Nat) = j) (hkk : pickF c (6 : Nat) = k) (hi7 : i < 7) (hj7 : j < 7) (hk6 : k < 6)
    (h66 : ¬ (i = 6 ∧ j = 6)) (hL : decide (loose j ≤ loose i) = false) {l r n top : Nd} {p e : Int} (he : e = 0) (hn : n.kids = [top]) (ht : top.kids = [l, r]) (hT : top.text = sg i) (hS : r.text = sg j)
    (hp : programF (src1 i j) = some (n, p, e)) {n2 : Nd} {p2 : Int} (hp2 : programF (src2 k) = some (n2, p2, 0)) {l2 r2 top2 : Nd} (hn2 : n2.kids = [top2]) (ht2 : top2.kids = [l2, r2]) (hl7 : l2.kind = 7) (hr7 : r2.kind = 7)
    (hk : K (.sc (.bool true)) st) : ACalls Tryd.prog 3 [.sc (.int .i64 a), .sc (.int .i64 b), .sc (.int .i64 c)] K st := by
  refine acalls_go_pure [] Tryd.func3 rfl Tryd.results3 Tryd.ntmps3 ?_
  have hs1 := sgSV_get i hi7
  have hs2 := sgSV_get j hj7
  have hs3 := sgSV_get k (by omega)
  have ho1 := loSV_get i hi7
  have ho2 := loSV_get j hj7
  have hl1 := sg_len i hi7
  have hl2 := sg_len j hj7
  have hl3 := sg_len k (by omega)
  unfold sgSV at hs1 hs2 hs3
  unfold loSV at ho1 ho2
  have c66 : (((i : Int) == 6) && ((j : Int) == 6)) = false := by
    rw [Bool.and_eq_false_iff, beq_eq_false_iff_ne, beq_eq_false_iff_ne]; omega
  have ce : (e != 0) = false := by rw [he]; rfl
  have cL := hL
  simp -implicitDefEqProofs (maxSteps := 3000000) only [go_sem, reduceCtorEq, Nat.reduceAdd, Nat.reduceMul, Nat.reduceLeDiff, Nat.reduceLT, Int.reduceLE, Int.reduceLT, Int.reduceEq, Nat.reduceBEq, Nat.reduceEqDiff]
  refine pick_c ha (n := 7) (by decide) (by decide) hi ?_
  simp -implicitDefEqProofs (maxSteps := 3000000) only [go_sem, reduceCtorEq, Nat.reduceAdd, Nat.reduceMul, Nat.reduceLeDiff, Nat.reduceLT, Int.reduceLE, Int.reduceLT, Int.reduceEq, Nat.reduceBEq, Nat.reduceEqDiff]
  refine pick_c hb (n := 7) (by decide) (by decide) hj ?_
  simp -implicitDefEqProofs (maxSteps := 3000000) only [go_sem, reduceCtorEq, Nat.reduceAdd, Nat.reduceMul, Nat.reduceLeDiff, Nat.reduceLT, Int.reduceLE, Int.reduceLT, Int.reduceEq, Nat.reduceBEq, Nat.reduceEqDiff]
  refine pick_c hc (n := 6) (by decide) (by decide) hkk ?_
  simp -implicitDefEqProofs (maxSteps := 3000000) only [go_sem, reduceCtorEq, Nat.reduceAdd, Nat.reduceMul, Nat.reduceLeDiff, Nat.reduceLT, Int.reduceLE, Int.reduceLT, Int.reduceEq, Nat.reduceBEq, Nat.reduceEqDiff]
  refine awp_drawW [] [(0, [18]), (0, [18]), (0, [18]), (0, [18]), (0, [18]), (0, [18]), (0, [18]), (0, [18]), (0, [18]), (0, [18]), (0, [18]), (0, [18]), (0, [18]), (0, [18]), (0, [18]), (0, [18, 21]), (0, [18, 21]), (3, [18]), (1, [21]), (0, []), (0, [])] Tryd.mixed rfl ?_
  simp -implicitDefEqProofs (maxSteps := 3000000) only [go_sem, reduceCtorEq, Nat.reduceAdd, Nat.reduceMul, Nat.reduceLeDiff, Nat.reduceLT, Int.reduceLE, Int.reduceLT, Int.reduceEq, Nat.reduceBEq, Nat.reduceEqDiff, drawW_n, drawW_0, drawW_1, drawW_2, drawW_3, pend_n, pend_c, headD_c, isStore_s, hs1, hs2, ba_size, hl1, hl2]
  refine ⟨by omega, by omega, ?_⟩
  rw [dk_eff]
  refine ⟨.tuple [ndSV n, .sc (.int .i64 p), .sc (.int .i64 e)], ?_, ?_⟩
  · simp -implicitDefEqProofs (maxSteps := 3000000) only [go_sem, reduceCtorEq, Nat.reduceAdd, Nat.reduceMul, Nat.reduceLeDiff, Nat.reduceLT, Int.reduceLE, Int.reduceLT, Int.reduceEq, Nat.reduceBEq, Nat.reduceEqDiff]
    refine parseR2 hp (wrap_1 i j) hg (src1_len hi7 hj7) ⟨⟨[], by simp⟩, ids_nds3 _ _ _ _ (ids_nd _ _), .inl rfl⟩
  simp -implicitDefEqProofs (maxSteps := 3000000) only [go_sem, reduceCtorEq, Nat.reduceAdd, Nat.reduceMul, Nat.reduceLeDiff, Nat.reduceLT, Int.reduceLE, Int.reduceLT, Int.reduceEq, Nat.reduceBEq, Nat.reduceEqDiff, drawW_n, drawW_0, drawW_1, drawW_2, drawW_3, pend_n, pend_c, headD_c, isStore_s, c66]
  refine ⟨_, _, ⟨rfl, rfl⟩, ⟨?_, by omega, by omega⟩, ?_⟩
  · rw [dk_eff]
    refine ⟨_, ?_, rfl⟩
    simp -implicitDefEqProofs (maxSteps := 3000000) only [go_sem, reduceCtorEq, Nat.reduceAdd, Nat.reduceMul, Nat.reduceLeDiff, Nat.reduceLT, Int.reduceLE, Int.reduceLT, Int.reduceEq, Nat.reduceBEq, Nat.reduceEqDiff]
    exact parseR2 hp (wrap_1 i j) (gat_app hg) (src1_len hi7 hj7) ⟨⟨[], by simp⟩, ids_nds3 _ _ _ _ (ids_nd _ _), .inl rfl⟩
  simp -implicitDefEqProofs (maxSteps := 3000000) only [go_sem, reduceCtorEq, Nat.reduceAdd, Nat.reduceMul, Nat.reduceLeDiff, Nat.reduceLT, Int.reduceLE, Int.reduceLT, Int.reduceEq, Nat.reduceBEq, Nat.reduceEqDiff, drawW_n, drawW_0, drawW_1, drawW_2, drawW_3, pend_n, pend_c, headD_c, isStore_s, c66, cells_nd, hn, ht, List.map_cons, List.map_nil, ce, e11, e22]
  refine ⟨by decide, by decide, ?_⟩
  refine awp_draw [] Tryd.mixed rfl ?_
  simp -implicitDefEqProofs (maxSteps := 3000000) only [go_sem, reduceCtorEq, Nat.reduceAdd, Nat.reduceMul, Nat.reduceLeDiff, Nat.reduceLT, Int.reduceLE, Int.reduceLT, Int.reduceEq, Nat.reduceBEq, Nat.reduceEqDiff, ho1, ho2, ge_iff_le, cL]
  refine ⟨by omega, by omega, ?_⟩
  refine awp_draw [] Tryd.mixed rfl ?_
  simp -implicitDefEqProofs (maxSteps := 3000000) only [go_sem, reduceCtorEq, Nat.reduceAdd, Nat.reduceMul, Nat.reduceLeDiff, Nat.reduceLT, Int.reduceLE, Int.reduceLT, Int.reduceEq, Nat.reduceBEq, Nat.reduceEqDiff, cells_nd, ht, List.map_cons, List.map_nil, hs1, hs2, hT, hS, beq_self_eq_true, Bool.not_true, Bool.not_false, Bool.or_self, forall_const]
  refine awp_draw [] Tryd.mixed rfl ?_
  simp -implicitDefEqProofs (maxSteps := 3000000) only [go_sem, reduceCtorEq, Nat.reduceAdd, Nat.reduceMul, Nat.reduceLeDiff, Nat.reduceLT, Int.reduceLE, Int.reduceLT, Int.reduceEq, Nat.reduceBEq, Nat.reduceEqDiff, cells_nd, ht, List.map_cons, List.map_nil, hs1, hs2, hT, hS, beq_self_eq_true, Bool.not_true, Bool.not_false, Bool.or_self, forall_const]
  refine ⟨by omega, by decide, by omega, ?_⟩
  simp -implicitDefEqProofs (maxSteps := 3000000) only [go_sem, reduceCtorEq, Nat.reduceAdd, Nat.reduceMul, Nat.reduceLeDiff, Nat.reduceLT, Int.reduceLE, Int.reduceLT, Int.reduceEq, Nat.reduceBEq, Nat.reduceEqDiff, hs3, ba_size, hl3, wrap_2]
  refine ⟨by omega, ?_⟩
  first | (unfold ACallsH; simp only [put_some, put_none', ev_tmp, List.set_cons_succ, List.set_cons_zero, List.getD_cons_succ, List.getD_cons_zero]) | skip
  refine parseR hp2 (gat_app hg) (src2_len (by omega)) ?_
  simp -implicitDefEqProofs (maxSteps := 3000000) only [go_sem, reduceCtorEq, Nat.reduceAdd, Nat.reduceMul, Nat.reduceLeDiff, Nat.reduceLT, Int.reduceLE, Int.reduceLT, Int.reduceEq, Nat.reduceBEq, Nat.reduceEqDiff, cells_nd, hn2, ht2, List.map_cons, List.map_nil, d0n, e11, e22, hl7, hr7, beq_self_eq_true, Bool.not_true, Bool.not_false, Bool.or_self, Bool.and_self, forall_const]
  refine ⟨by decide, by decide, by decide, by decide, by decide, ?_⟩
  refine lives_c (gat_app hg) ?_
  simp -implicitDefEqProofs (maxSteps := 3000000) only [go_sem, reduceCtorEq, Nat.reduceAdd, Nat.reduceMul, Nat.reduceLeDiff, Nat.reduceLT, Int.reduceLE, Int.reduceLT, Int.reduceEq, Nat.reduceBEq, Nat.reduceEqDiff]
  exact fin_pure (ids_scv _ _) hk
theorem left_c {gid : Nat} {m : Int} {K : SV → St → Prop} {st : St} (hg : GAt gid m st) {a b c : Int} (ha : -9223372036854775808 ≤ a ∧ a ≤ 9223372036854775807) (hb : -9223372036854775808 ≤ b ∧ b ≤ 9223372036854775807) (hc : -9223372036854775808 ≤ c ∧ c ≤ 9223372036854775807)
    (hk : K (.sc (.bool true)) st) : ACalls Tryd.prog 3 [.sc (.int .i64 a), .sc (.int .i64 b), .sc (.int .i64 c)] K st := by
  obtain ⟨i, hi7, hi⟩ := pick_rng (c := a) (n := 7) (by decide)
  obtain ⟨j, hj7, hj⟩ := pick_rng (c := b) (n := 7) (by decide)
  obtain ⟨k, hk6, hkk⟩ := pick_rng (c := c) (n := 6) (by decide)
  have h1 := left1 ⟨i, hi7⟩ ⟨j, hj7⟩
  have h2 := left2 ⟨k, hk6⟩
  simp only at h1 h2
  obtain ⟨n2, p2, hp2, top2, l2, r2, hn2, ht2, hl7, hr7⟩ := chk2_of h2
  unfold chk1 at h1
  cases hp : programF (src1 i j) with
  | none => rw [hp] at h1; cases h1
  | some y =>
    obtain ⟨n, p, e⟩ := y
    rw [hp] at h1
    simp only at h1
    by_cases h66 : i = 6 ∧ j = 6
    · rw [if_pos h66] at h1
      exact leftE_c hg ha hb hc hi hj hkk hi7 hj7 hk6 h66 (beq_iff_eq.1 h1) hp hk
    · rw [if_neg h66, Bool.and_eq_true, beq_iff_eq] at h1
      obtain ⟨he, h1⟩ := h1
      obtain ⟨top, l, r, hn, ht, hf⟩ := two_of h1
      by_cases hL : loose j ≤ loose i
      · rw [if_pos hL, Bool.and_eq_true, beq_iff_eq, beq_iff_eq] at hf
        exact leftL_c hg ha hb hc hi hj hkk hi7 hj7 hk6 h66 (by simp [hL]) he hn ht hf.1 hf.2 hp hp2 hn2 ht2 hl7 hr7 hk
      · rw [if_neg hL, Bool.and_eq_true, beq_iff_eq, beq_iff_eq] at hf
        exact leftR_c hg ha hb hc hi hj hkk hi7 hj7 hk6 h66 (by simp [hL]) he hn ht hf.1 hf.2 hp hp2 hn2 ht2 hl7 hr7 hk
end Go.Proofs
