/- The document's state: Head. -/
import Derived.Test.YteclbnjpijakbaaDoorW20
set_option linter.unusedSimpArgs false
set_option linter.unusedVariables false
set_option maxRecDepth 8000
namespace Go.Proofs
open Go Go.AL

/-- What the document's state binds. -/
def gR (R : List (Option Ty)) : Bd := fun v => if 1 ≤ v then R.getD (v.toNat - 1) none else none

theorem rty_at {R : List (Option Ty)} {k : Nat} (h : k < R.length) : ((R.flatMap rty).drop (k * 3)).take 3 = rty (R.getD k none) := by
  induction R generalizing k with
  | nil => simp at h
  | cons x r ih =>
    have hl : (rty x).length = 3 := by cases x with
      | none => rfl
      | some t => exact ty_len t
    rw [List.flatMap_cons]
    cases k with
    | zero => simp [hl]
    | succ k =>
      have : (rty x ++ r.flatMap rty).drop ((k + 1) * 3) = (r.flatMap rty).drop (k * 3) := by
        rw [List.drop_append, hl, List.drop_eq_nil_of_le (by omega), List.nil_append]
        congr 1
        omega
      rw [this, ih (by simpa using h)]
      simp

theorem bit_at {R : List (Option Ty)} {k : Nat} (h : k < R.length) : cellsOf Tryd.prog 4 (List.drop (k * 1) (R.map fun x => SV.sc (.bool x.isSome))) = some (.sc (.bool (R.getD k none).isSome)) := by
  rw [Nat.mul_one, List.drop_eq_getElem_cons (by simpa using h)]
  simp [cellsOf, List.getD_eq_getElem?_getD, h, Tryd.aagg4, Tryd.asize4]
theorem ty_at {R : List (Option Ty)} {k : Nat} (h : k < R.length) {b : Ty} (hb : R.getD k none = some b) : cellsOf Tryd.prog 25 ((R.flatMap rty).drop (k * 3)) = some (tySV b) := by
  have h1 := rty_at h
  rw [hb] at h1
  have hc := cells_ty b
  have h2 : (rty (some b)) = (tySV b).cells := rfl
  have h3 : 3 ≤ ((R.flatMap rty).drop (k * 3)).length := by
    have := congrArg List.length h1
    rw [h2, ty_len, List.length_take] at this
    omega
  simp only [cellsOf, Tryd.aagg25, Tryd.asize25]
  rw [h1, h2, hc, tySV_eq]
  rw [if_pos h3]

set_option maxHeartbeats 4000000 in
theorem head_c {id a b va vb : Nat} {R : List (Option Ty)} {st : St} (hR : RSt st id a b va vb R) (hn : R.length ≤ 1000) (hB : BG R.length (gR R)) {t : Ty} (hg : goodB (ownP R.length) t = true) (K : SV → St → Prop) (h : K (tySV (LK (gR R) t)) st) :
    ACalls Tryd.prog 50 [.ptr id 0, tySV t] K st := by
  refine acalls_go_pure [3] Tryd.func50 rfl Tryd.results50 Tryd.ntmps50 ?_
  obtain ⟨n, hen⟩ := hB.ends.all (good_gd hg)
  have e0 : (st ++ [Ob.cells (tySV t).cells, Ob.cells zty])[st.length]? = some (.cells (tySV t).cells) := by simp
  have e1 : (st ++ [Ob.cells (tySV t).cells, Ob.cells zty])[st.length + 1]? = some (.cells zty) := get_app1 st _ _
  simp only [go_sem, reduceCtorEq, Nat.reduceAdd, Nat.reduceMul, Nat.reduceLeDiff, Nat.reduceLT, Int.reduceLE, Int.reduceLT, Int.reduceEq, Nat.reduceBEq, Nat.reduceEqDiff]
  refine awp_rounds [] (fun m e s => ∃ t' : Ty, En (gR R) m t' ∧ goodB (ownP R.length) t' = true ∧ LK (gR R) t' = LK (gR R) t ∧ Gr st s ∧ s[st.length]? = some (.cells (tySV t').cells) ∧ s[st.length + 1]? = some (.cells zty) ∧
    e = [.ptr id 0, .any, .any, .ptr st.length 0, .ptr (st.length + 1) 0, .any, .any, .any, .any, .any, .any, .any, .any, .any, .any, .any, .any, .any, .any, .any, .any, .any, .any, .any, .any, .any, .any, .any, .any]) (n := n) ?_ ⟨t, hen, hg, rfl, (Gr.refl st).app _, e0, e1, rfl⟩ ?_
  · repeat (first | exact leEnv_nil | refine leEnv_any _ ?_ | refine leEnv_same _ ?_ | refine leEnv_norm _ ?_)
  clear e0 e1 hen
  rintro m e s ⟨t', hen, hg', hlk, hGr, e0, e1, rfl⟩
  have hid := (hGr.same _ (lt_of_get hR.hid)).trans hR.hid
  have ha := (hGr.same _ (lt_of_get hR.ha)).trans hR.ha
  have hb := (hGr.same _ (lt_of_get hR.hb)).trans hR.hb
  have f := cells_facts e0
  have g := cells_facts e1
  have hi := cells_facts hid
  have fa := arr_facts ha
  have fb := arr_facts hb
  rw [cells_ty] at f
  have hzn : zty.length = 3 := rfl
  have hzd : List.drop 3 zty = [] := rfl
  have hre : resCell Tryd.prog 25 (s.set (st.length + 1) (.cells [.sc (.int .i64 t'.v), .sc (.string t'.name), .slice .imm 3 (t'.args.map tySV)])) (.ptr (st.length + 1) 0) = some (.agg [.sc (.int .i64 t'.v), .sc (.string t'.name), .slice .imm 3 (t'.args.map tySV)]) := by
    have r := cells_facts (List.getElem?_set_self (a := .cells [.sc (.int .i64 t'.v), .sc (.string t'.name), .slice .imm 3 (t'.args.map tySV)]) (lt_of_get e1))
    simp only [go_sem, reduceCtorEq, Nat.reduceAdd, Nat.reduceMul, Nat.reduceLeDiff, Nat.reduceLT, Int.reduceLE, Int.reduceLT, Int.reduceEq, Nat.reduceBEq, Nat.reduceEqDiff, r.1, r.2.1, r.2.2]
  have fin : LK (gR R) t = t' → FinK st K (.agg [.sc (.int .i64 t'.v), .sc (.string t'.name), .slice .imm 3 (t'.args.map tySV)]) (s.set (st.length + 1) (.cells [.sc (.int .i64 t'.v), .sc (.string t'.name), .slice .imm 3 (t'.args.map tySV)])) := fun e => by
    rw [e] at h
    have hid := ids_ty st.length t'
    rw [tySV_eq] at h hid
    exact ⟨(hGr.set (by omega) _).ex, hid, h⟩
  by_cases hv : t'.v = 0
  · have b0 : (t'.v != 0) = false := by simp [hv]
    simp only [go_sem, reduceCtorEq, Nat.reduceAdd, Nat.reduceMul, Nat.reduceLeDiff, Nat.reduceLT, Int.reduceLE, Int.reduceLT, Int.reduceEq, Nat.reduceBEq, Nat.reduceEqDiff]
    refine awp_draw [] Tryd.mixed rfl ?_
    simp only [go_sem, reduceCtorEq, Nat.reduceAdd, Nat.reduceMul, Nat.reduceLeDiff, Nat.reduceLT, Int.reduceLE, Int.reduceLT, Int.reduceEq, Nat.reduceBEq, Nat.reduceEqDiff, f.1, f.2.1, f.2.2, b0, g.1, g.2.1, g.2.2, hzn, hzd, hre]
    exact fin (by rw [← hlk, LK_con hB.ends (good_gd hg') hv])
  · have b0 : (t'.v != 0) = true := by simp [hv]
    have ro := gp_var hg' hv
    obtain ⟨k, hk⟩ : ∃ k : Nat, t'.v = (k : Int) + 1 := ⟨t'.v.toNat - 1, by omega⟩
    have hw : IntKind.i64.wrap (t'.v - 1) = (k : Int) := by rw [IntWalk.i64_in _ (by omega)]; omega
    have hkl : k < R.length := by omega
    have c1 : (k : Int) < (R.length : Int) := by omega
    have c0 : (0 : Int) ≤ (k : Int) := by omega
    simp only [go_sem, reduceCtorEq, Nat.reduceAdd, Nat.reduceMul, Nat.reduceLeDiff, Nat.reduceLT, Int.reduceLE, Int.reduceLT, Int.reduceEq, Nat.reduceBEq, Nat.reduceEqDiff]
    refine awp_draw [] Tryd.mixed rfl ?_
    simp only [go_sem, reduceCtorEq, Nat.reduceAdd, Nat.reduceMul, Nat.reduceLeDiff, Nat.reduceLT, Int.reduceLE, Int.reduceLT, Int.reduceEq, Nat.reduceBEq, Nat.reduceEqDiff, f.1, f.2.1, f.2.2, b0, hi.1, hi.2.1, hi.2.2, hw, c0, c1, fb.1, fb.2.1, fb.2.2.1, fb.2.2.2]
    have hgr : gR R t'.v = R.getD k none := by
      unfold gR
      rw [if_pos (by omega), hk]
      congr 1
    rw [bit_at hkl]
    cases hx : R.getD k none with
    | none =>
      rw [hx] at hgr
      simp only [go_sem, reduceCtorEq, Nat.reduceAdd, Nat.reduceMul, Nat.reduceLeDiff, Nat.reduceLT, Int.reduceLE, Int.reduceLT, Int.reduceEq, Nat.reduceBEq, Nat.reduceEqDiff, f.1, f.2.1, f.2.2, g.1, g.2.1, g.2.2, hzn, hzd, hre, Option.isSome_none]
      exact fin (by rw [← hlk, LK_free hv hgr])
    | some b =>
      rw [hx] at hgr
      have hty := ty_at hkl hx
      have hgb := hB.gp _ _ hgr
      obtain ⟨m0, rfl⟩ : ∃ m0, m = m0 + 1 := by
        cases m with
        | zero => exact hen.elim
        | succ m0 => exact ⟨m0, rfl⟩
      rw [en_bound hv hgr] at hen
      simp only [go_sem, reduceCtorEq, Nat.reduceAdd, Nat.reduceMul, Nat.reduceLeDiff, Nat.reduceLT, Int.reduceLE, Int.reduceLT, Int.reduceEq, Nat.reduceBEq, Nat.reduceEqDiff, Option.isSome_some]
      refine awp_drawT [] [0, 0, 0, 0, 0, 0, 0, 0, 0, 3] (fun _ => True) Tryd.mixed rfl trivial ?_
      simp only [go_sem, reduceCtorEq, Nat.reduceAdd, Nat.reduceMul, Nat.reduceLeDiff, Nat.reduceLT, Int.reduceLE, Int.reduceLT, Int.reduceEq, Nat.reduceBEq, Nat.reduceEqDiff, drawU_n, drawU_0, drawU_1, drawU_2, drawU_3, isStore_s, f.1, f.2.1, f.2.2, hi.1, hi.2.1, hi.2.2, hw, c0, c1, fa.1, fa.2.1, fa.2.2.1, fa.2.2.2, hty]
      refine ⟨_, _, ⟨rfl, rfl⟩, m0, _, by omega, ?_, b, hen, hgb, by rw [← hlk, LK_bound hB.ends hv hgr (good_gd hgb)], hGr.set (Nat.le_refl _) _, List.getElem?_set_self (lt_of_get e0), (List.getElem?_set_ne (by omega)).trans e1, rfl⟩
      repeat (first | exact leEnv_nil | refine leEnv_any _ ?_ | refine leEnv_same _ ?_ | refine leEnv_norm _ ?_)

end Go.Proofs
set_option linter.unusedSimpArgs false
set_option linter.unusedVariables false
set_option maxRecDepth 8000
namespace Go.Proofs
open Go Go.AL

theorem RSt.app {st : St} {id a b va vb : Nat} {R : List (Option Ty)} (h : RSt st id a b va vb R) (l : St) : RSt (st ++ l) id a b va vb R :=
  ⟨(List.getElem?_append_left (lt_of_get h.hid)).trans h.hid, (List.getElem?_append_left (lt_of_get h.ha)).trans h.ha, (List.getElem?_append_left (lt_of_get h.hb)).trans h.hb, h.ne⟩
theorem Gr.rst {st s : St} (h : Gr st s) {id a b va vb : Nat} {R : List (Option Ty)} (hR : RSt st id a b va vb R) : RSt s id a b va vb R :=
  ⟨(h.same _ (lt_of_get hR.hid)).trans hR.hid, (h.same _ (lt_of_get hR.ha)).trans hR.ha, (h.same _ (lt_of_get hR.hb)).trans hR.hb, hR.ne⟩

set_option maxHeartbeats 4000000 in
theorem rsize_c {id a b va vb : Nat} {R : List (Option Ty)} (hn : R.length ≤ 1000) (hB : BG R.length (gR R)) : ∀ (d : Nat), d ≤ 100 → ∀ (t : Ty), goodB (ownP R.length) t = true → ∀ (K : SV → St → Prop) (st : St), RSt st id a b va vb R →
    (∀ c : Int, 1 ≤ c → Coun d (AP (gR R) t) c → K (.sc (.int .i64 c)) st) → ACalls Tryd.prog 39 [.ptr id 0, tySV t, .sc (.int .i64 d)] K st := by
  intro d
  induction d with
  | zero =>
    intro _ t hg K st hR h
    refine acalls_go_pure [4] Tryd.func39 rfl Tryd.results39 Tryd.ntmps39 ?_
    have b0 : (((0 : Nat) : Int) == 0) = true := rfl
    simp only [go_sem, reduceCtorEq, Nat.reduceAdd, Nat.reduceMul, Nat.reduceLeDiff, Nat.reduceLT, Int.reduceLE, Int.reduceLT, Int.reduceEq, Nat.reduceBEq, Nat.reduceEqDiff, b0]
    refine ⟨⟨_, rfl⟩, .sc _, h 201 (by omega) ⟨by omega, by omega, ?_⟩⟩
    rw [if_neg (by omega)]
    have := dp_pos (AP (gR R) t)
    omega
  | succ left ih =>
    intro hle t hg K st hR h
    refine acalls_go_pure [4] Tryd.func39 rfl Tryd.results39 Tryd.ntmps39 ?_
    have hE := hB.ends
    have hG := hB.gp.gb
    have hgd := good_gd hg
    have hlk := @head_c id a b va vb R (st ++ [Ob.cells (tySV t).cells]) (hR.app _) hn hB t hg
    have htree := head_tree hE hG hgd
    have hgl := LK_gp hE hB.gp hg
    obtain ⟨u, hu⟩ : ∃ u, u = LK (gR R) t := ⟨_, rfl⟩
    rw [← hu] at hlk htree hgl
    have hargs : ∀ x ∈ u.args, goodB (ownP R.length) x = true := by
      by_cases huv : u.v = 0
      · exact gp_args hgl huv
      · rw [gd_var (good_gd hgl) huv]; exact fun x hx => by cases hx
    obtain ⟨T, hTd⟩ : ∃ T, T = AP (gR R) t := ⟨_, rfl⟩
    rw [← hTd] at htree h
    have hTa : T.args = u.args.map (AP (gR R)) := by rw [htree]; rfl
    have hTl : T.args.length = u.args.length := by rw [hTa, List.length_map]
    have e0 : (st ++ [Ob.cells (tySV t).cells])[st.length]? = some (.cells (tySV t).cells) := by simp
    have f := cells_facts e0
    have hdl : List.drop 3 (tySV t).cells = [] := List.drop_of_length_le (by rw [ty_len]; exact Nat.le_refl _)
    have hnt := nd_eq T
    have hdt := dp_eq T
    have b0 : (((left + 1 : Nat) : Int) == 0) = false := by simp; omega
    have hw2 : IntKind.i64.wrap (((left + 1 : Nat) : Int) - 1) = (left : Int) := by rw [IntWalk.i64_in _ (by omega)]; omega
    have hcu := cells_ty u
    simp only [go_sem, reduceCtorEq, Nat.reduceAdd, Nat.reduceMul, Nat.reduceLeDiff, Nat.reduceLT, Int.reduceLE, Int.reduceLT, Int.reduceEq, Nat.reduceBEq, Nat.reduceEqDiff, b0]
    refine hlk _ ?_
    simp only [go_sem, reduceCtorEq, Nat.reduceAdd, Nat.reduceMul, Nat.reduceLeDiff, Nat.reduceLT, Int.reduceLE, Int.reduceLT, Int.reduceEq, Nat.reduceBEq, Nat.reduceEqDiff, f.1, f.2.1, f.2.2, hdl, List.append_nil, ty_len]
    refine awp_rounds [] (fun m e s => ∃ (k : Nat) (c : Int), m + k = u.args.length ∧ Gr st s ∧ s[st.length]? = some (.cells (tySV u).cells) ∧ (k : Int) + 1 ≤ c ∧ c ≤ 201 * (left + 2) ∧ (c ≤ 200 → c = 1 + (ndL (T.args.take k) : Int) ∧ dpL (T.args.take k) ≤ left) ∧ (200 < c → ¬ (nd T ≤ 200 ∧ dp T ≤ left + 1)) ∧
      e = [.ptr id 0, .any, .sc (.int .i64 ((left + 1 : Nat) : Int)), .any, .ptr st.length 0, .any, .any, .sc (.int .i64 c), .sc (.int .i64 k), .any, .any, .any, .any, .any, .any, .any, .any, .any, .any, .any, .any, .any, .any, .any, .any, .any, .any, .any, .any, .any, .any, .any, .any, .any, .any, .any, .any]) (n := u.args.length) ?_ ⟨0, 1, by omega, (Gr.refl st).app _, by simp, by omega, by omega, fun _ => ⟨rfl, Nat.zero_le _⟩, fun h => absurd h (by omega), rfl⟩ ?_
    · repeat (first | exact leEnv_nil | refine leEnv_any _ ?_ | refine leEnv_same _ ?_ | refine leEnv_norm _ ?_)
    rintro m e s ⟨k, c, hmk, hGr, ec, hkc, hcb, hc1, hc2, rfl⟩
    have fc := cells_facts ec
    rw [hcu] at fc
    by_cases hlt : k < u.args.length
    · have c1 : (k : Int) < (u.args.length : Int) := by omega
      have c0 : (0 : Int) ≤ (k : Int) := by omega
      have hltT : k < T.args.length := by omega
      obtain ⟨x, had⟩ : ∃ x, x = u.args.getD k default := ⟨_, rfl⟩
      have ham : x ∈ u.args := by rw [had]; simp [List.getD_eq_getElem?_getD, hlt]
      have hga := hargs x ham
      have hTk : T.args.getD k default = AP (gR R) x := by
        rw [hTa, had]; simp [List.getD_eq_getElem?_getD, hlt]
      have hmem : T.args.getD k default ∈ T.args := by simp [List.getD_eq_getElem?_getD, hltT]
      have hn1 : ndL (T.args.take (k + 1)) = ndL (T.args.take k) + nd (T.args.getD k default) := by rw [take_snocT _ hltT, ndL_app]; simp [ndL]
      have hd1 : dpL (T.args.take (k + 1)) = max (dpL (T.args.take k)) (dp (T.args.getD k default)) := by rw [take_snocT _ hltT, dpL_app]; simp [dpL]
      have hsub : ndL (T.args.take (k + 1)) ≤ ndL T.args := by
        conv => rhs; rw [← List.take_append_drop (k + 1) T.args]
        rw [ndL_app]; omega
      have hdm := dp_mem hmem
      have hps := nd_pos (T.args.getD k default)
      have hpd := dp_pos (T.args.getD k default)
      have hgk : (u.args.map tySV).getD k .any = tySV x := by rw [had]; exact getD_mapT _ hlt
      by_cases hc : c ≤ 200
      · have b1 : (c ≤ 200) = True := eq_true hc
        obtain ⟨q1, q2⟩ := hc1 hc
        have hw : IntKind.i64.wrap ((k : Int) + 1) = ((k + 1 : Nat) : Int) := by rw [IntWalk.i64_in _ (by omega)]; rfl
        have hrec := fun K h => ih (by omega) x hga K s (hGr.rst hR) h
        simp only [go_sem, reduceCtorEq, Nat.reduceAdd, Nat.reduceMul, Nat.reduceLeDiff, Nat.reduceLT, Int.reduceLE, Int.reduceLT, Int.reduceEq, Nat.reduceBEq, Nat.reduceEqDiff, c1, c0, hgk, b1, hw2, fc.1, fc.2.1, fc.2.2]
        refine hrec _ fun y hy1 hy => ?_
        obtain ⟨x1, x2, x3⟩ := hy
        have hwx : IntKind.i64.wrap (c + y) = c + y := IntWalk.i64_in _ (by omega)
        rw [← hTk] at x3
        simp only [go_sem, reduceCtorEq, Nat.reduceAdd, Nat.reduceMul, Nat.reduceLeDiff, Nat.reduceLT, Int.reduceLE, Int.reduceLT, Int.reduceEq, Nat.reduceBEq, Nat.reduceEqDiff, hwx, hw]
        refine ⟨m - 1, _, by omega, ?_, k + 1, c + y, by omega, hGr, ec, by omega, by omega, fun hcx => ?_, fun hcx => ?_, rfl⟩
        · repeat (first | exact leEnv_nil | refine leEnv_any _ ?_ | refine leEnv_same _ ?_ | refine leEnv_norm _ ?_)
        · rw [if_pos (by omega)] at x3
          omega
        · split at x3
          · omega
          · omega
      · have b1 : (c ≤ 200) = False := eq_false hc
        simp only [go_sem, reduceCtorEq, Nat.reduceAdd, Nat.reduceMul, Nat.reduceLeDiff, Nat.reduceLT, Int.reduceLE, Int.reduceLT, Int.reduceEq, Nat.reduceBEq, Nat.reduceEqDiff, c1, b1, fc.1, fc.2.1, fc.2.2]
        refine ⟨hGr.ex, .sc _, h c (by omega) ⟨by omega, by omega, ?_⟩⟩
        rw [if_neg (by omega)]
        exact hc2 (by omega)
    · obtain rfl : k = u.args.length := by omega
      simp only [go_sem, reduceCtorEq, Nat.reduceAdd, Nat.reduceMul, Nat.reduceLeDiff, Nat.reduceLT, Int.reduceLE, Int.reduceLT, Int.reduceEq, Nat.reduceBEq, Nat.reduceEqDiff, Int.lt_irrefl, fc.1, fc.2.1, fc.2.2]
      refine ⟨hGr.ex, .sc _, h c (by omega) ⟨by omega, by omega, ?_⟩⟩
      have htk : T.args.take u.args.length = T.args := by rw [← hTl, List.take_length]
      rw [htk] at hc1
      split
      · rename_i hc
        obtain ⟨q1, q2⟩ := hc1 hc
        omega
      · exact hc2 (by omega)

end Go.Proofs
set_option linter.unusedSimpArgs false
set_option linter.unusedVariables false
set_option maxRecDepth 8000
namespace Go.Proofs
open Go Go.AL

theorem coun_fit {T : Ty} {c : Int} (h : Coun 40 T c) : fitB T = decide (c ≤ 200) := by
  obtain ⟨c1, c2, c3⟩ := h
  unfold fitB
  rw [Bool.eq_iff_iff, Bool.and_eq_true, decide_eq_true_eq, decide_eq_true_eq, decide_eq_true_eq]
  split at c3
  · constructor
    · intro _; assumption
    · intro _; omega
  · constructor
    · intro q; exact absurd q c3
    · intro q; contradiction

set_option maxHeartbeats 4000000 in
theorem rMay_c {id a b va vb : Nat} {R : List (Option Ty)} {st : St} (hR : RSt st id a b va vb R) (hn : R.length ≤ 1000) (hB : BG R.length (gR R)) (t : Ty) (K : SV → St → Prop) (h : K (.sc (.bool (okT R.length (gR R) t))) st) :
    ACalls Tryd.prog 19 [.ptr id 0, tySV t] K st := by
  refine acalls_go_pure [] Tryd.func19 rfl Tryd.results19 Tryd.ntmps19 ?_
  have hi := cells_facts hR.hid
  have fa := arr_facts hR.ha
  have hF := fun K h => Form_c (R.length : Int) t K st h
  have hown : (fun n => decide (1 ≤ n) && decide (n ≤ (R.length : Int))) = ownP R.length := rfl
  have hco := cellsOf_ty (P := Tryd.prog) (t := 25) t Tryd.aagg25 Tryd.asize25
  unfold okT at h
  cases hm : mayB (ownP R.length) t with
  | false =>
    rw [hown, hm] at hF
    rw [hm] at h
    simp only [go_sem, reduceCtorEq, Nat.reduceAdd, Nat.reduceMul, Nat.reduceLeDiff, Nat.reduceLT, Int.reduceLE, Int.reduceLT, Int.reduceEq, Nat.reduceBEq, Nat.reduceEqDiff]
    refine awp_draw [] Tryd.mixed rfl ?_
    simp only [go_sem, reduceCtorEq, Nat.reduceAdd, Nat.reduceMul, Nat.reduceLeDiff, Nat.reduceLT, Int.reduceLE, Int.reduceLT, Int.reduceEq, Nat.reduceBEq, Nat.reduceEqDiff, hi.1, hi.2.1, hi.2.2, fa.1, fa.2.1, fa.2.2.1, fa.2.2.2, hco]
    refine ⟨.sc (.bool false), ?_, ?_⟩
    · simp only [go_sem, reduceCtorEq, Nat.reduceAdd, Nat.reduceMul, Nat.reduceLeDiff, Nat.reduceLT, Int.reduceLE, Int.reduceLT, Int.reduceEq, Nat.reduceBEq, Nat.reduceEqDiff]
      exact hF _ ⟨⟨[], by simp⟩, .sc _, .inl rfl⟩
    simp only [go_sem, reduceCtorEq, Nat.reduceAdd, Nat.reduceMul, Nat.reduceLeDiff, Nat.reduceLT, Int.reduceLE, Int.reduceLT, Int.reduceEq, Nat.reduceBEq, Nat.reduceEqDiff]
    exact fin_sc h
  | true =>
    have hg := may_good hm
    rw [hown, hm] at hF
    rw [hm, Bool.true_and] at h
    have hs := fun K h => @rsize_c id a b va vb R hn hB 40 (by omega) t hg K st hR h
    have h40 : ((40 : Nat) : Int) = 40 := rfl
    rw [h40] at hs
    simp only [go_sem, reduceCtorEq, Nat.reduceAdd, Nat.reduceMul, Nat.reduceLeDiff, Nat.reduceLT, Int.reduceLE, Int.reduceLT, Int.reduceEq, Nat.reduceBEq, Nat.reduceEqDiff]
    refine awp_draw [] Tryd.mixed rfl ?_
    simp only [go_sem, reduceCtorEq, Nat.reduceAdd, Nat.reduceMul, Nat.reduceLeDiff, Nat.reduceLT, Int.reduceLE, Int.reduceLT, Int.reduceEq, Nat.reduceBEq, Nat.reduceEqDiff, hi.1, hi.2.1, hi.2.2, fa.1, fa.2.1, fa.2.2.1, fa.2.2.2, hco]
    refine ⟨.sc (.bool true), ?_, ?_⟩
    · simp only [go_sem, reduceCtorEq, Nat.reduceAdd, Nat.reduceMul, Nat.reduceLeDiff, Nat.reduceLT, Int.reduceLE, Int.reduceLT, Int.reduceEq, Nat.reduceBEq, Nat.reduceEqDiff]
      exact hF _ ⟨⟨[], by simp⟩, .sc _, .inl rfl⟩
    simp only [go_sem, reduceCtorEq, Nat.reduceAdd, Nat.reduceMul, Nat.reduceLeDiff, Nat.reduceLT, Int.reduceLE, Int.reduceLT, Int.reduceEq, Nat.reduceBEq, Nat.reduceEqDiff, hco]
    refine hs _ fun c _ hc => ?_
    rw [coun_fit hc] at h
    simp only [go_sem, reduceCtorEq, Nat.reduceAdd, Nat.reduceMul, Nat.reduceLeDiff, Nat.reduceLT, Int.reduceLE, Int.reduceLT, Int.reduceEq, Nat.reduceBEq, Nat.reduceEqDiff]
    exact fin_sc h

set_option maxHeartbeats 4000000 in
theorem rapply_c {id a b va vb : Nat} {R : List (Option Ty)} (hn : R.length ≤ 1000) (hB : BG R.length (gR R)) : ∀ (d : Nat) (t : Ty), goodB (ownP R.length) t = true → dp (AP (gR R) t) ≤ d → nd (AP (gR R) t) ≤ 100000 → ∀ (K : SV → St → Prop) (st : St), RSt st id a b va vb R →
    K (tySV (AP (gR R) t)) st → ACalls Tryd.prog 42 [.ptr id 0, tySV t] K st := by
  intro d
  induction d with
  | zero => intro t hg hd; have := dp_pos (AP (gR R) t); omega
  | succ d ih =>
    intro t hg hd hnb K st hR h
    refine acalls_le ?_
    refine acalls_go_pure [3] Tryd.func42 rfl Tryd.results42 Tryd.ntmps42 ?_
    have hE := hB.ends
    have hG := hB.gp.gb
    have hgd := good_gd hg
    have hlk := @head_c id a b va vb R (st ++ [Ob.cells (tySV t).cells, Ob.cells zty]) (hR.app _) hn hB t hg
    have htree := head_tree hE hG hgd
    have hgl := LK_gp hE hB.gp hg
    obtain ⟨u, hu⟩ : ∃ u, u = LK (gR R) t := ⟨_, rfl⟩
    rw [← hu] at hlk htree hgl
    have hargs : ∀ x ∈ u.args, goodB (ownP R.length) x = true := by
      by_cases huv : u.v = 0
      · exact gp_args hgl huv
      · rw [gd_var (good_gd hgl) huv]; exact fun x hx => by cases hx
    obtain ⟨T, hTd⟩ : ∃ T, T = AP (gR R) t := ⟨_, rfl⟩
    rw [← hTd] at htree h hd hnb
    have hTa : T.args = u.args.map (AP (gR R)) := by rw [htree]; rfl
    have e0 : (st ++ [Ob.cells (tySV t).cells, Ob.cells zty])[st.length]? = some (.cells (tySV t).cells) := by simp
    have e1 : (st ++ [Ob.cells (tySV t).cells, Ob.cells zty])[st.length + 1]? = some (.cells zty) := get_app1 st _ _
    have f := cells_facts e0
    have hdl : List.drop 3 (tySV t).cells = [] := List.drop_of_length_le (by rw [ty_len]; exact Nat.le_refl _)
    have hdt := dp_eq T
    have hnt := nd_eq T
    have hal : u.args.length ≤ 100000 := by
      have := len_nd T.args
      rw [hTa, List.length_map] at this
      rw [hTa] at hnt
      omega
    have hcu := cells_ty u
    obtain ⟨s1, hs1⟩ : ∃ s1, (st ++ [Ob.cells (tySV u).cells, Ob.cells zty]) = s1 := ⟨_, rfl⟩
    have k0 : s1[st.length]? = some (.cells (tySV u).cells) := by rw [← hs1]; simp
    have k1 : s1[st.length + 1]? = some (.cells zty) := by rw [← hs1]; exact get_app1 st _ _
    have kG : Gr st s1 := by rw [← hs1]; exact (Gr.refl st).app _
    have kf := cells_facts k0
    rw [hcu] at kf
    have hl1 : s1.length = st.length + 2 := by rw [← hs1]; simp
    simp only [go_sem, reduceCtorEq, Nat.reduceAdd, Nat.reduceMul, Nat.reduceLeDiff, Nat.reduceLT, Int.reduceLE, Int.reduceLT, Int.reduceEq, Nat.reduceBEq, Nat.reduceEqDiff]
    refine hlk _ ?_
    simp only [go_sem, reduceCtorEq, Nat.reduceAdd, Nat.reduceMul, Nat.reduceLeDiff, Nat.reduceLT, Int.reduceLE, Int.reduceLT, Int.reduceEq, Nat.reduceBEq, Nat.reduceEqDiff, f.1, f.2.1, f.2.2, hdl, List.append_nil, ty_len, hs1, kf.1, kf.2.1, kf.2.2, hl1]
    have hg2 : ∀ c : Ob, (s1 ++ [c])[st.length + 2]? = some c := fun c => by rw [← hs1]; simp
    refine awp_ownC (st.length + 2) 2 3 0 (hg2 _) (by simp) rfl ?_
    simp only [go_sem, reduceCtorEq, Nat.reduceAdd, Nat.reduceMul, Nat.reduceLeDiff, Nat.reduceLT, Int.reduceLE, Int.reduceLT, Int.reduceEq, Nat.reduceBEq, Nat.reduceEqDiff, hl1]
    have hk3 : ∀ a c : Ob, (s1 ++ [a, c])[st.length + 3]? = some c := fun a c => by rw [← hs1]; simp
    have hk2 : ∀ a c : Ob, (s1 ++ [a, c])[st.length + 2]? = some a := fun a c => by rw [← hs1]; simp
    have hk1 : ∀ l : St, (s1 ++ l)[st.length + 1]? = some (.cells zty) := fun l => (List.getElem?_append_left (lt_of_get k1)).trans k1
    have hk0 : ∀ l : St, (s1 ++ l)[st.length]? = some (.cells (tySV u).cells) := fun l => (List.getElem?_append_left (lt_of_get k0)).trans k0
    refine awp_rounds [] (fun m e s => ∃ (k : Nat), m + k = u.args.length ∧ Gr st s ∧ s[st.length]? = some (.cells (tySV u).cells) ∧ s[st.length + 1]? = some (.cells zty) ∧ s[st.length + 3]? = some (.tok k) ∧
      s[st.length + 2]? = some (.cells [.sc (.int .i64 u.v), .sc (.string u.name), .slice (.own (st.length + 3) k) 3 (((u.args.take k).map (AP (gR R))).map tySV)]) ∧
      e = [.ptr id 0, .any, .any, .ptr st.length 0, .ptr (st.length + 1) 0, .ptr (st.length + 2) 0, .sc (.int .i64 k), .any, .any, .any, .any, .any, .any, .any, .any, .any, .any, .any, .any, .any, .any, .any, .any, .any, .any, .any, .any, .any, .any, .any, .any, .any, .any, .any, .any]) (n := u.args.length) ?_ ⟨0, by omega, kG.app _, hk0 _, hk1 _, hk3 _ _, hk2 _ _, rfl⟩ ?_
    · repeat (first | exact leEnv_nil | refine leEnv_any _ ?_ | refine leEnv_same _ ?_ | refine leEnv_norm _ ?_)
    rintro m e s ⟨k, hmk, hGr, z0, z1, z3, z2, rfl⟩
    have f0 := cells_facts z0
    rw [hcu] at f0
    by_cases hlt : k < u.args.length
    · have c1 : (k : Int) < (u.args.length : Int) := by omega
      have c0 : (0 : Int) ≤ (k : Int) := by omega
      obtain ⟨x, had⟩ : ∃ x, x = u.args.getD k default := ⟨_, rfl⟩
      have hgk : (u.args.map tySV).getD k .any = tySV x := by rw [had]; exact getD_mapT _ hlt
      have ham : x ∈ u.args := by rw [had]; simp [List.getD_eq_getElem?_getD, hlt]
      have hga := hargs x ham
      have hmem : AP (gR R) x ∈ T.args := by rw [hTa]; exact List.mem_map_of_mem ham
      have hdm := dp_mem hmem
      have hnm : nd (AP (gR R) x) ≤ ndL T.args := nd_mem hmem
      have hw : IntKind.i64.wrap ((k : Int) + 1) = ((k + 1 : Nat) : Int) := by rw [IntWalk.i64_in _ (by omega)]; rfl
      have hts : (((u.args.take (k + 1)).map (AP (gR R))).map tySV) = (((u.args.take k).map (AP (gR R))).map tySV) ++ [tySV (AP (gR R) x)] := by
        rw [take_snocT _ hlt, ← had]; simp
      have hlen : (u.args.take k).length + 1 ≤ 1000000 := by rw [List.length_take]; omega
      have f2 := cells_facts z2
      have ft := fun v' => tokAt_eq (v' := v') z3
      have w2 : (s.set (st.length + 3) (.tok (k + 1)))[st.length + 2]? = some (.cells [.sc (.int .i64 u.v), .sc (.string u.name), .slice (.own (st.length + 3) k) 3 (((u.args.take k).map (AP (gR R))).map tySV)]) := by rw [List.getElem?_set_ne (by omega)]; exact z2
      have g2 := cells_facts w2
      have hrec := fun K h => ih x hga (by omega) (by omega) K s (hGr.rst hR) h
      simp only [go_sem, reduceCtorEq, Nat.reduceAdd, Nat.reduceMul, Nat.reduceLeDiff, Nat.reduceLT, Int.reduceLE, Int.reduceLT, Int.reduceEq, Nat.reduceBEq, Nat.reduceEqDiff, c1, c0, f0.1, f0.2.1, f0.2.2]
      refine awp_drawE [] [10, 12] [0, 1, 2, 3, 4, 5, 6, 7, 8, 9] (fun _ => True) Tryd.mixed rfl rfl rfl rfl trivial ?_
      refine dE_early rfl rfl (.ptr (st.length + 2) 2) (by simp only [go_sem, reduceCtorEq, Nat.reduceAdd, Nat.reduceMul, Nat.reduceLeDiff, Nat.reduceLT, Int.reduceLE, Int.reduceLT, Int.reduceEq, Nat.reduceBEq, Nat.reduceEqDiff]) ?_
      refine dE_early rfl rfl (.slice (.own (st.length + 3) k) 3 (((u.args.take k).map (AP (gR R))).map tySV)) (by simp only [go_sem, reduceCtorEq, Nat.reduceAdd, Nat.reduceMul, Nat.reduceLeDiff, Nat.reduceLT, Int.reduceLE, Int.reduceLT, Int.reduceEq, Nat.reduceBEq, Nat.reduceEqDiff, f2.1, f2.2.1, f2.2.2]) ?_
      refine dE_early rfl rfl (.ptr id 0) (by simp only [go_sem, reduceCtorEq, Nat.reduceAdd, Nat.reduceMul, Nat.reduceLeDiff, Nat.reduceLT, Int.reduceLE, Int.reduceLT, Int.reduceEq, Nat.reduceBEq, Nat.reduceEqDiff]) ?_
      refine dE_early rfl rfl (.ptr st.length 2) (by simp only [go_sem, reduceCtorEq, Nat.reduceAdd, Nat.reduceMul, Nat.reduceLeDiff, Nat.reduceLT, Int.reduceLE, Int.reduceLT, Int.reduceEq, Nat.reduceBEq, Nat.reduceEqDiff]) ?_
      refine dE_early rfl rfl (.slice .imm 3 (u.args.map tySV)) (by simp only [go_sem, reduceCtorEq, Nat.reduceAdd, Nat.reduceMul, Nat.reduceLeDiff, Nat.reduceLT, Int.reduceLE, Int.reduceLT, Int.reduceEq, Nat.reduceBEq, Nat.reduceEqDiff, f0.1, f0.2.1, f0.2.2]) ?_
      refine dE_early rfl rfl (.sc (.int .i64 k)) (by simp only [go_sem, reduceCtorEq, Nat.reduceAdd, Nat.reduceMul, Nat.reduceLeDiff, Nat.reduceLT, Int.reduceLE, Int.reduceLT, Int.reduceEq, Nat.reduceBEq, Nat.reduceEqDiff]) ?_
      refine dE_early rfl rfl (.ref (tySV x).cells) (by simp only [go_sem, reduceCtorEq, Nat.reduceAdd, Nat.reduceMul, Nat.reduceLeDiff, Nat.reduceLT, Int.reduceLE, Int.reduceLT, Int.reduceEq, Nat.reduceBEq, Nat.reduceEqDiff, c1, c0, hgk]) ?_
      refine dE_early rfl rfl (tySV x) (by simp only [go_sem, reduceCtorEq, Nat.reduceAdd, Nat.reduceMul, Nat.reduceLeDiff, Nat.reduceLT, Int.reduceLE, Int.reduceLT, Int.reduceEq, Nat.reduceBEq, Nat.reduceEqDiff]) ?_
      refine dE_early rfl rfl (tySV (AP (gR R) x)) ?_ ?_
      · simp only [go_sem, reduceCtorEq, Nat.reduceAdd, Nat.reduceMul, Nat.reduceLeDiff, Nat.reduceLT, Int.reduceLE, Int.reduceLT, Int.reduceEq, Nat.reduceBEq, Nat.reduceEqDiff]
        refine ⟨_, ?_, rfl⟩
        simp only [go_sem, reduceCtorEq, Nat.reduceAdd, Nat.reduceMul, Nat.reduceLeDiff, Nat.reduceLT, Int.reduceLE, Int.reduceLT, Int.reduceEq, Nat.reduceBEq, Nat.reduceEqDiff]
        refine hrec _ ⟨⟨[], by simp⟩, ids_ty _ _, .inl rfl⟩
      refine dE_early rfl rfl (.slice .full 3 [tySV (AP (gR R) x)]) ?_ ?_
      · simp only [go_sem, reduceCtorEq, Nat.reduceAdd, Nat.reduceMul, Nat.reduceLeDiff, Nat.reduceLT, Int.reduceLE, Int.reduceLT, Int.reduceEq, Nat.reduceBEq, Nat.reduceEqDiff]
        refine ⟨_, ?_, rfl⟩
        simp only [go_sem, reduceCtorEq, Nat.reduceAdd, Nat.reduceMul, Nat.reduceLeDiff, Nat.reduceLT, Int.reduceLE, Int.reduceLT, Int.reduceEq, Nat.reduceBEq, Nat.reduceEqDiff]
        refine ⟨⟨[], by simp⟩, ?_, .inl rfl⟩
        exact ids_tys _ _ (.inr rfl) [AP (gR R) x]
      refine dE_turn rfl (.slice (.own (st.length + 3) (k + 1)) 3 (((u.args.take (k + 1)).map (AP (gR R))).map tySV)) (s.set (st.length + 3) (.tok (k + 1))) ?_ rfl trivial ?_
      · simp only [go_sem, reduceCtorEq, Nat.reduceAdd, Nat.reduceMul, Nat.reduceLeDiff, Nat.reduceLT, Int.reduceLE, Int.reduceLT, Int.reduceEq, Nat.reduceBEq, Nat.reduceEqDiff, ft]
        exact ⟨app3 hlen, by rw [hts]⟩
      refine dE_pure rfl rfl (.ptr (st.length + 2) 2) (fun s _ => by simp only [go_sem, reduceCtorEq, Nat.reduceAdd, Nat.reduceMul, Nat.reduceLeDiff, Nat.reduceLT, Int.reduceLE, Int.reduceLT, Int.reduceEq, Nat.reduceBEq, Nat.reduceEqDiff]) ?_
      refine dE_turn rfl .any ((s.set (st.length + 3) (.tok (k + 1))).set (st.length + 2) (.cells [.sc (.int .i64 u.v), .sc (.string u.name), .slice (.own (st.length + 3) (k + 1)) 3 (((u.args.take (k + 1)).map (AP (gR R))).map tySV)])) ?_ rfl trivial ?_
      · simp only [go_sem, reduceCtorEq, Nat.reduceAdd, Nat.reduceMul, Nat.reduceLeDiff, Nat.reduceLT, Int.reduceLE, Int.reduceLT, Int.reduceEq, Nat.reduceBEq, Nat.reduceEqDiff, g2.1, g2.2.1, g2.2.2]
      refine dE_end ?_
      simp only [go_sem, reduceCtorEq, Nat.reduceAdd, Nat.reduceMul, Nat.reduceLeDiff, Nat.reduceLT, Int.reduceLE, Int.reduceLT, Int.reduceEq, Nat.reduceBEq, Nat.reduceEqDiff, hw]
      refine ⟨m - 1, _, by omega, ?_, k + 1, by omega, (hGr.set (by omega) _).set (by omega) _, ?_, ?_, ?_, ?_, rfl⟩
      · repeat (first | exact leEnv_nil | refine leEnv_any _ ?_ | refine leEnv_same _ ?_ | refine leEnv_norm _ ?_)
      · rw [List.getElem?_set_ne (by omega), List.getElem?_set_ne (by omega)]; exact z0
      · rw [List.getElem?_set_ne (by omega), List.getElem?_set_ne (by omega)]; exact z1
      · rw [List.getElem?_set_ne (by omega), List.getElem?_set_self (by have := lt_of_get z3; omega)]
      · rw [List.getElem?_set_self (by rw [List.length_set]; have := lt_of_get z2; omega)]
    · obtain rfl : k = u.args.length := by omega
      have f1 := cells_facts z1
      have f2 := cells_facts z2
      rw [List.take_length] at f2
      have hz : zty = [.sc (.int .i64 0), .sc (.string ⟨#[]⟩), .slice .full 0 []] := rfl
      have hre : resCell Tryd.prog 25 (s.set (st.length + 1) (.cells [.sc (.int .i64 u.v), .sc (.string u.name), .slice (.own (st.length + 3) u.args.length) 3 ((u.args.map (AP (gR R))).map tySV)])) (.ptr (st.length + 1) 0) = some (.agg [.sc (.int .i64 u.v), .sc (.string u.name), .slice (.own (st.length + 3) u.args.length) 3 ((u.args.map (AP (gR R))).map tySV)]) := by
        have r := cells_facts (List.getElem?_set_self (a := .cells [.sc (.int .i64 u.v), .sc (.string u.name), .slice (.own (st.length + 3) u.args.length) 3 ((u.args.map (AP (gR R))).map tySV)]) (lt_of_get z1))
        simp only [go_sem, reduceCtorEq, Nat.reduceAdd, Nat.reduceMul, Nat.reduceLeDiff, Nat.reduceLT, Int.reduceLE, Int.reduceLT, Int.reduceEq, Nat.reduceBEq, Nat.reduceEqDiff, r.1, r.2.1, r.2.2]
      have hzn : zty.length = 3 := rfl
      have hzd : List.drop 3 zty = [] := rfl
      simp only [go_sem, reduceCtorEq, Nat.reduceAdd, Nat.reduceMul, Nat.reduceLeDiff, Nat.reduceLT, Int.reduceLE, Int.reduceLT, Int.reduceEq, Nat.reduceBEq, Nat.reduceEqDiff, Int.lt_irrefl, f0.1, f0.2.1, f0.2.2, f1.1, f1.2.1, f1.2.2, f2.1, f2.2.1, f2.2.2, hzn, hzd, hre]
      rw [hTd, tySV_eq, ← hTd, htree] at h
      refine ⟨((hGr.set (by omega) _)).ex, ?_, _, ?_, h⟩
      · simp only [norm, List.map_cons, List.map_nil, norm1, ids_agg, List.forall_mem_cons, ids_sc, true_and]
        exact ⟨ids_tys _ _ (.inl rfl) _, fun x hx => by cases hx⟩
      · exact SVle.refl _

end Go.Proofs
