/- con, count, form, Form, measure, well, May. -/
import Derived.Test.YteclbnjpijakbaaDoorData
import Derived.Test.YteclbnjpijakbaaDoorA8
set_option linter.unusedSimpArgs false
set_option maxRecDepth 8000
namespace Go.Proofs
open Go Go.AL

theorem con_c (n : ByteArray) (l : List Ty) (m : AL.Mode) (K : SV → St → Prop) (st : St) (h : K (tySV (.mk 0 n l)) st) : ACalls Tryd.prog 15 [.sc (.string n), .slice m 3 (l.map tySV)] K st := by
  refine acalls_go_pure [] Tryd.func15 rfl Tryd.results15 Tryd.ntmps15 ?_
  rw [tySV_eq] at h
  simp only [go_sem, reduceCtorEq, Nat.reduceAdd, Nat.reduceMul, Nat.reduceLeDiff, Nat.reduceLT, Int.reduceLE, Int.reduceLT, Int.reduceEq, Nat.reduceBEq, Nat.reduceEqDiff]
  refine ⟨⟨_, rfl⟩, ?_, h⟩
  have := ids_ty st.length (.mk 0 n l)
  rw [tySV_eq] at this
  exact this


theorem wrap_small (x : Int) (h : -1000000 ≤ x ∧ x ≤ 1000000) : IntKind.i64.wrap x = x := IntWalk.i64_in _ (by omega)

set_option maxHeartbeats 4000000 in
theorem count_c : ∀ (deep : Nat), deep ≤ 100 → ∀ (t : Ty) (K : SV → St → Prop) (st : St), (∀ c : Int, 1 ≤ c → Coun deep t c → K (.sc (.int .i64 c)) st) → ACalls Tryd.prog 35 [tySV t, .sc (.int .i64 deep)] K st := by
  intro deep
  induction deep with
  | zero =>
    intro _ t K st h
    refine acalls_go_pure [] Tryd.func35 rfl Tryd.results35 Tryd.ntmps35 ?_
    have h := h 201 (by omega) ⟨by omega, by omega, by rw [if_neg (by omega)]; have := dp_pos t; omega⟩
    rw [tySV_eq]
    have e0 : (((0 : Nat) : Int) == 0) = true := rfl
    simp only [go_sem, reduceCtorEq, Nat.reduceAdd, Nat.reduceMul, Nat.reduceLeDiff, Nat.reduceLT, Int.reduceLE, Int.reduceLT, Int.reduceEq, Nat.reduceBEq, Nat.reduceEqDiff, e0]
    exact fin_sc h
  | succ d ih =>
    intro hd t K st h
    refine acalls_go_pure [] Tryd.func35 rfl Tryd.results35 Tryd.ntmps35 ?_
    rw [tySV_eq]
    have e0 : (((d + 1 : Nat) : Int) == 0) = false := by simp; omega
    simp only [go_sem, reduceCtorEq, Nat.reduceAdd, Nat.reduceMul, Nat.reduceLeDiff, Nat.reduceLT, Int.reduceLE, Int.reduceLT, Int.reduceEq, Nat.reduceBEq, Nat.reduceEqDiff, e0]
    refine awp_rounds [] (fun m e s => ∃ (k : Nat) (c : Int), m + k = t.args.length ∧ (k : Int) + 1 ≤ c ∧ c ≤ 201 * (d + 2) ∧ (c ≤ 200 → c = 1 + (ndL (t.args.take k) : Int) ∧ dpL (t.args.take k) ≤ d) ∧ (200 < c → ¬ (nd t ≤ 200 ∧ dp t ≤ d + 1)) ∧
      e = [.any, .sc (.int .i64 ((d + 1 : Nat) : Int)), .ref [.sc (.int .i64 t.v), .sc (.string t.name), .slice .imm 3 (t.args.map tySV)], .any, .any, .sc (.int .i64 c), .sc (.int .i64 k), .any, .any, .any, .any, .any, .any, .any, .any, .any, .any, .any, .any, .any, .any, .any, .any, .any, .any, .any, .any, .any, .any, .any, .any] ∧ s = st) (n := t.args.length) ?_ ⟨0, 1, by omega, by omega, by omega, fun _ => ⟨rfl, Nat.zero_le _⟩, fun h => absurd h (by omega), rfl, rfl⟩ ?_
    · repeat (first | exact leEnv_nil | refine leEnv_any _ ?_ | refine leEnv_same _ ?_ | refine leEnv_norm _ ?_)
    rintro m e s ⟨k, c, hmk, hkc, hcb, hc1, hc2, rfl, rfl⟩
    by_cases hlt : k < t.args.length
    · by_cases hc : c ≤ 200
      · obtain ⟨q1, q2⟩ := hc1 hc
        have c1 : (k : Int) < (t.args.length : Int) := by omega
        have hw2 : IntKind.i64.wrap (((d + 1 : Nat) : Int) - 1) = (d : Int) := by rw [IntWalk.i64_in _ (by omega)]; omega
        have hw : IntKind.i64.wrap ((k : Int) + 1) = ((k + 1 : Nat) : Int) := by rw [IntWalk.i64_in _ (by omega)]; rfl
        have hmem : t.args.getD k default ∈ t.args := by simp [List.getD_eq_getElem?_getD, hlt]
        have hn1 : ndL (t.args.take (k + 1)) = ndL (t.args.take k) + nd (t.args.getD k default) := by rw [take_snocT _ hlt, ndL_app]; simp [ndL]
        have hd1 : dpL (t.args.take (k + 1)) = max (dpL (t.args.take k)) (dp (t.args.getD k default)) := by rw [take_snocT _ hlt, dpL_app]; simp [dpL]
        have hsub : ndL (t.args.take (k + 1)) ≤ ndL t.args := by
          conv => rhs; rw [← List.take_append_drop (k + 1) t.args]
          rw [ndL_app]; omega
        have hdm := dp_mem hmem
        have hnt := nd_eq t
        have hdt := dp_eq t
        simp only [go_sem, reduceCtorEq, Nat.reduceAdd, Nat.reduceMul, Nat.reduceLeDiff, Nat.reduceLT, Int.reduceLE, Int.reduceLT, Int.reduceEq, Nat.reduceBEq, Nat.reduceEqDiff, c1, hc, hw2, getD_mapT _ hlt]
        refine ih (by omega) _ _ _ (fun x hx1 hx => ?_)
        obtain ⟨x1, x2, x3⟩ := hx
        have hwx : IntKind.i64.wrap (c + x) = c + x := IntWalk.i64_in _ (by omega)
        simp only [go_sem, reduceCtorEq, Nat.reduceAdd, Nat.reduceMul, Nat.reduceLeDiff, Nat.reduceLT, Int.reduceLE, Int.reduceLT, Int.reduceEq, Nat.reduceBEq, Nat.reduceEqDiff, hwx, hw]
        refine ⟨m - 1, _, by omega, ?_, k + 1, c + x, by omega, by omega, by omega, fun hcx => ?_, fun hcx => ?_, rfl⟩
        · repeat (first | exact leEnv_nil | refine leEnv_any _ ?_ | refine leEnv_same _ ?_ | refine leEnv_norm _ ?_)
        · rw [if_pos (by omega)] at x3
          omega
        · intro ⟨y1, y2⟩
          split at x3 <;> omega
      · have c1 : (k : Int) < (t.args.length : Int) := by omega
        simp only [go_sem, reduceCtorEq, Nat.reduceAdd, Nat.reduceMul, Nat.reduceLeDiff, Nat.reduceLT, Int.reduceLE, Int.reduceLT, Int.reduceEq, Nat.reduceBEq, Nat.reduceEqDiff, c1, hc]
        exact fin_sc (h c (by omega) ⟨by omega, by omega, by rw [if_neg hc]; exact hc2 (by omega)⟩)
    · obtain rfl : k = t.args.length := by omega
      simp only [go_sem, reduceCtorEq, Nat.reduceAdd, Nat.reduceMul, Nat.reduceLeDiff, Nat.reduceLT, Int.reduceLE, Int.reduceLT, Int.reduceEq, Nat.reduceBEq, Nat.reduceEqDiff, Int.lt_irrefl]
      refine fin_sc (h c (by omega) ⟨by omega, by omega, ?_⟩)
      rw [List.take_length] at hc1
      split
      · rename_i hc
        obtain ⟨q1, q2⟩ := hc1 hc
        rw [nd_eq, dp_eq]; omega
      · exact hc2 (by omega)

theorem good_take (p : Int → Bool) (l : List Ty) {k : Nat} (h : k < l.length) : goodL p (l.take (k + 1)) = (goodL p (l.take k) && goodB p (l.getD k default)) := by
  rw [take_snocT l h, goodL_app]; simp [goodL]
theorem good_drop (p : Int → Bool) (l : List Ty) {k : Nat} (h : k < l.length) : goodL p (l.drop k) = (goodB p (l.getD k default) && goodL p (l.drop (k + 1))) := by
  rw [List.drop_eq_getElem_cons h, goodL]; simp [List.getD_eq_getElem?_getD, h]

theorem b4 (a b c d : Bool) : (a && b && c && d) = (c && d && (a && b)) := by cases a <;> cases b <;> cases c <;> cases d <;> rfl

set_option maxHeartbeats 4000000 in
theorem form_c (vars : Int) : ∀ (b : Nat), b ≤ 1000 → ∀ (t : Ty), nd t ≤ b → ∀ (K : SV → St → Prop) (st : St), K (.sc (.bool (goodB (fun n => decide (1 ≤ n) && decide (n ≤ vars)) t))) st → ACalls Tryd.prog 36 [tySV t, .sc (.int .i64 vars)] K st := by
  intro b
  induction b with
  | zero => intro _ t hn; have := nd_pos t; omega
  | succ b ih =>
    intro hb t hn K st h
    refine acalls_go_pure [] Tryd.func36 rfl Tryd.results36 Tryd.ntmps36 ?_
    have hnt := nd_eq t
    have hll : t.args.length ≤ ndL t.args := by
      have : ∀ l : List Ty, l.length ≤ ndL l := by
        intro l
        induction l with
        | nil => simp
        | cons x r ih => simp only [List.length_cons, ndL]; have := nd_pos x; omega
      exact this _
    rw [goodB_eq] at h
    rw [tySV_eq]
    by_cases hv : t.v = 0
    · have e0 : (t.v != 0) = false := by simp [hv]
      rw [if_pos hv] at h
      cases hname : (t.name.toList == ByteArray.toList ⟨#[]⟩) with
      | true =>
        rw [hname] at h
        simp only [go_sem, reduceCtorEq, Nat.reduceAdd, Nat.reduceMul, Nat.reduceLeDiff, Nat.reduceLT, Int.reduceLE, Int.reduceLT, Int.reduceEq, Nat.reduceBEq, Nat.reduceEqDiff, e0, hname]
        exact fin_sc h
      | false =>
        rw [hname] at h
        simp only [go_sem, reduceCtorEq, Nat.reduceAdd, Nat.reduceMul, Nat.reduceLeDiff, Nat.reduceLT, Int.reduceLE, Int.reduceLT, Int.reduceEq, Nat.reduceBEq, Nat.reduceEqDiff, e0, hname]
        refine awp_rounds [] (fun m e s => ∃ (k : Nat), m + k = t.args.length ∧ goodL (fun n => decide (1 ≤ n) && decide (n ≤ vars)) t.args = goodL (fun n => decide (1 ≤ n) && decide (n ≤ vars)) (t.args.drop k) ∧ e = [.any, .sc (.int .i64 vars), .ref [.sc (.int .i64 t.v), .sc (.string t.name), .slice .imm 3 (t.args.map tySV)], .any, .any, .sc (.int .i64 k), .any, .any, .any, .any, .any, .any, .any, .any, .any, .any, .any, .any, .any, .any, .any, .any, .any, .any, .any, .any, .any, .any, .any, .any, .any, .any, .any, .any, .any, .any, .any, .any, .any, .any, .any, .any, .any, .any, .any, .any, .any, .any, .any] ∧ s = st) (n := t.args.length) ?_ ⟨0, by omega, rfl, rfl, rfl⟩ ?_
        · repeat (first | exact leEnv_nil | refine leEnv_any _ ?_ | refine leEnv_same _ ?_ | refine leEnv_norm _ ?_)
        rintro m e s ⟨k, hmk, hg, rfl, rfl⟩
        by_cases hlt : k < t.args.length
        · have c1 : (k : Int) < (t.args.length : Int) := by omega
          have hw : IntKind.i64.wrap ((k : Int) + 1) = ((k + 1 : Nat) : Int) := by rw [IntWalk.i64_in _ (by omega)]; rfl
          have hmem : t.args.getD k default ∈ t.args := by simp [List.getD_eq_getElem?_getD, hlt]
          have hnm := nd_mem hmem
          have hgd := good_drop (fun n => decide (1 ≤ n) && decide (n ≤ vars)) t.args hlt
          simp only [go_sem, reduceCtorEq, Nat.reduceAdd, Nat.reduceMul, Nat.reduceLeDiff, Nat.reduceLT, Int.reduceLE, Int.reduceLT, Int.reduceEq, Nat.reduceBEq, Nat.reduceEqDiff, c1, getD_mapT _ hlt]
          refine ih (by omega) _ (by omega) _ _ ?_
          cases hgk : goodB (fun n => decide (1 ≤ n) && decide (n ≤ vars)) (t.args.getD k default) with
          | false =>
            rw [hgk] at hgd
            simp only [go_sem, reduceCtorEq, Nat.reduceAdd, Nat.reduceMul, Nat.reduceLeDiff, Nat.reduceLT, Int.reduceLE, Int.reduceLT, Int.reduceEq, Nat.reduceBEq, Nat.reduceEqDiff]
            rw [hg, hgd] at h
            exact fin_sc h
          | true =>
            rw [hgk] at hgd
            simp only [go_sem, reduceCtorEq, Nat.reduceAdd, Nat.reduceMul, Nat.reduceLeDiff, Nat.reduceLT, Int.reduceLE, Int.reduceLT, Int.reduceEq, Nat.reduceBEq, Nat.reduceEqDiff, hw]
            refine ⟨m - 1, _, by omega, ?_, k + 1, by omega, by rw [hg, hgd, Bool.true_and], rfl⟩
            repeat (first | exact leEnv_nil | refine leEnv_any _ ?_ | refine leEnv_same _ ?_ | refine leEnv_norm _ ?_)
        · obtain rfl : k = t.args.length := by omega
          simp only [go_sem, reduceCtorEq, Nat.reduceAdd, Nat.reduceMul, Nat.reduceLeDiff, Nat.reduceLT, Int.reduceLE, Int.reduceLT, Int.reduceEq, Nat.reduceBEq, Nat.reduceEqDiff, Int.lt_irrefl]
          rw [hg, List.drop_length] at h
          exact fin_sc h
    · have e0 : (t.v != 0) = true := by simp [hv]
      rw [if_neg hv] at h
      have e2 : ((t.args.length : Int) == 0) = (t.args.length == 0) := by rw [Bool.eq_iff_iff]; simp
      simp only [go_sem, reduceCtorEq, Nat.reduceAdd, Nat.reduceMul, Nat.reduceLeDiff, Nat.reduceLT, Int.reduceLE, Int.reduceLT, Int.reduceEq, Nat.reduceBEq, Nat.reduceEqDiff, e0, e2]
      refine fin_sc ?_
      rw [b4]
      exact h

/-- Is a type of the form of one? -/
theorem Form_c (vars : Int) (t : Ty) (K : SV → St → Prop) (st : St) (h : K (.sc (.bool (mayB (fun n => decide (1 ≤ n) && decide (n ≤ vars)) t))) st) : ACalls Tryd.prog 17 [tySV t, .sc (.int .i64 vars)] K st := by
  refine acalls_go_pure [] Tryd.func17 rfl Tryd.results17 Tryd.ntmps17 ?_
  have h40 : ((40 : Nat) : Int) = 40 := rfl
  have hb : (tySV t) = .agg (tySV t).cells := by rw [tySV_eq]; rfl
  simp only [go_sem, reduceCtorEq, Nat.reduceAdd, Nat.reduceMul, Nat.reduceLeDiff, Nat.reduceLT, Int.reduceLE, Int.reduceLT, Int.reduceEq, Nat.reduceBEq, Nat.reduceEqDiff]
  refine count_c 40 (by omega) _ _ _ (fun c hc1 ⟨hc2, hc3, hc4⟩ => ?_)
  simp only [go_sem, reduceCtorEq, Nat.reduceAdd, Nat.reduceMul, Nat.reduceLeDiff, Nat.reduceLT, Int.reduceLE, Int.reduceLT, Int.reduceEq, Nat.reduceBEq, Nat.reduceEqDiff]
  unfold mayB at h
  refine ⟨fun e => ?_, fun e => ?_⟩
  · have e := of_decide_eq_true e
    rw [if_neg (by omega)] at hc4
    have : (decide (dp t ≤ 40) && decide (nd t ≤ 200)) = false := by
      rw [Bool.eq_false_iff]; simp only [ne_eq, Bool.and_eq_true, decide_eq_true_eq]; omega
    rw [this, Bool.and_false] at h
    exact fin_sc h
  · have e := of_decide_eq_false e
    rw [if_pos (by omega)] at hc4
    have : (decide (dp t ≤ 40) && decide (nd t ≤ 200)) = true := by
      simp only [Bool.and_eq_true, decide_eq_true_eq]; omega
    rw [this, Bool.and_true] at h
    refine form_c vars 1000 (by omega) t (by omega) _ _ ?_
    simp only [go_sem, reduceCtorEq, Nat.reduceAdd, Nat.reduceMul, Nat.reduceLeDiff, Nat.reduceLT, Int.reduceLE, Int.reduceLT, Int.reduceEq, Nat.reduceBEq, Nat.reduceEqDiff]
    exact fin_sc h

end Go.Proofs
set_option linter.unusedSimpArgs false
set_option maxRecDepth 8000
namespace Go.Proofs
open Go Go.AL

theorem fin_tup3 {K : SV → St → Prop} {st s : St} {a b c : Value} (hs : ∃ ex, s = st ++ ex) (h : K (.tuple [.sc a, .sc b, .sc c]) st) : FinK st K (.tuple [.sc a, .sc b, .sc c]) s :=
  ⟨hs, by simp only [norm, List.map_cons, List.map_nil, norm1, go_sem], h⟩

set_option maxHeartbeats 4000000 in
theorem measure_c (p : Int → Bool) (g : FuncId) (fs cs : List SV) (hg : aBody Tryd.prog g = true) : ∀ (left : Nat), left ≤ 100 → ∀ (t : Ty) (K : SV → St → Prop) (st : St),
    (∀ (ex : St) (n : Int) (K : SV → St → Prop), K (.sc (.bool (p n))) (st ++ ex) → ACalls Tryd.prog g (fs ++ [.sc (.int .i64 n)] ++ cs) K (st ++ ex)) →
    (∀ d n ok, Meas p left t d n ok → K (.tuple [.sc (.int .i64 d), .sc (.int .i64 n), .sc (.bool ok)]) st) → ACalls Tryd.prog 43 [tySV t, .sc (.int .i64 left), .func (.func g) fs cs] K st := by
  intro left
  induction left using Nat.strongRecOn with
  | _ left ih =>
    intro hle t K st hp h
    refine acalls_go_pure [] Tryd.func43 rfl Tryd.results43 Tryd.ntmps43 ?_
    have hgt := goodB_eq p t
    have hnt := nd_eq t
    have hdt := dp_eq t
    have hp0 := hp []
    simp only [List.append_nil] at hp0
    rw [tySV_eq]
    by_cases hv : t.v = 0
    · have e0 : (t.v != 0) = false := by simp [hv]
      rw [if_pos hv] at hgt
      simp only [go_sem, reduceCtorEq, Nat.reduceAdd, Nat.reduceMul, Nat.reduceLeDiff, Nat.reduceLT, Int.reduceLE, Int.reduceLT, Int.reduceEq, Nat.reduceBEq, Nat.reduceEqDiff, e0]
      refine awp_rounds [] (fun m e s => ∃ (k : Nat) (ex : St), m + k = t.args.length ∧ goodL p (t.args.take k) = true ∧ dpL (t.args.take k) ≤ left ∧ 1 + ndL (t.args.take k) ≤ 201 * (left + 1) ∧ k ≤ ndL (t.args.take k) ∧
        e = [.any, .sc (.int .i64 left), .func (.func g) fs cs, .ref [.sc (.int .i64 t.v), .sc (.string t.name), .slice .imm 3 (t.args.map tySV)], .any, .any, .any, .any, .any, .sc (.int .i64 (dpL (t.args.take k) : Nat)), .sc (.int .i64 ((1 + ndL (t.args.take k) : Nat) : Int)), .any, .any, .any, .any, .any, .any, .any, .any, .any, .any, .any, .any, .any, .any, .any, .any, .any, .any, .any, .any, .any, .any, .any, .any, .slice .imm 3 (t.args.map tySV), .sc (.int .i64 t.args.length), .sc (.int .i64 k), .any, .any, .any, .any, .any, .any, .any, .any, .any, .any, .any, .any, .any, .any, .any, .any, .any, .any, .any, .any, .any, .any, .any, .any, .any, .any, .any, .any, .any, .any, .any, .any, .any] ∧ s = st ++ ex) (n := t.args.length) ?_ ⟨0, [], by omega, rfl, Nat.zero_le _, by simp [ndL]; omega, Nat.zero_le _, rfl, by simp⟩ ?_
      · repeat (first | exact leEnv_nil | refine leEnv_any _ ?_ | refine leEnv_same _ ?_ | refine leEnv_norm _ ?_)
      rintro m e s ⟨k, ex, hmk, hgk, hdk, hnk, hkn, rfl, hs⟩
      by_cases hlt : k < t.args.length
      · have c1 : (k : Int) < (t.args.length : Int) := by omega
        have hmem : t.args.getD k default ∈ t.args := by simp [List.getD_eq_getElem?_getD, hlt]
        have hn1 : ndL (t.args.take (k + 1)) = ndL (t.args.take k) + nd (t.args.getD k default) := by rw [take_snocT _ hlt, ndL_app]; simp [ndL]
        have hd1 : dpL (t.args.take (k + 1)) = max (dpL (t.args.take k)) (dp (t.args.getD k default)) := by rw [take_snocT _ hlt, dpL_app]; simp [dpL]
        have hg1 := good_take p t.args hlt
        have hsub : ndL (t.args.take (k + 1)) ≤ ndL t.args := by
          conv => rhs; rw [← List.take_append_drop (k + 1) t.args]
          rw [ndL_app]; omega
        have hdm := dp_mem hmem
        have hpos := dp_pos (t.args.getD k default)
        have hps := nd_pos (t.args.getD k default)
        by_cases hl0 : left = 0
        · subst hl0
          have e1 : (((0 : Nat) : Int) == 0) = true := rfl
          simp only [go_sem, reduceCtorEq, Nat.reduceAdd, Nat.reduceMul, Nat.reduceLeDiff, Nat.reduceLT, Int.reduceLE, Int.reduceLT, Int.reduceEq, Nat.reduceBEq, Nat.reduceEqDiff, c1, getD_mapT _ hlt, e1]
          refine fin_tup3 ⟨_, by rw [hs, List.append_assoc]⟩ (h 0 0 false ?_)
          unfold Meas
          rw [if_neg (by decide)]
          omega
        · obtain ⟨l', rfl⟩ : ∃ l', left = l' + 1 := ⟨left - 1, by omega⟩
          have e1 : (((l' + 1 : Nat) : Int) == 0) = false := by simp; omega
          by_cases hc : 200 < 1 + ndL (t.args.take k)
          · have e2 : (200 : Int) < ((1 + ndL (t.args.take k) : Nat) : Int) := by omega
            simp only [go_sem, reduceCtorEq, Nat.reduceAdd, Nat.reduceMul, Nat.reduceLeDiff, Nat.reduceLT, Int.reduceLE, Int.reduceLT, Int.reduceEq, Nat.reduceBEq, Nat.reduceEqDiff, c1, getD_mapT _ hlt, e1, e2]
            refine fin_tup3 ⟨_, by rw [hs, List.append_assoc]⟩ (h 0 0 false ?_)
            unfold Meas
            rw [if_neg (by decide)]
            omega
          · have e2 : ((200 : Int) < ((1 + ndL (t.args.take k) : Nat) : Int)) = False := eq_false (by omega)
            have hw2 : IntKind.i64.wrap (((l' + 1 : Nat) : Int) - 1) = (l' : Int) := by rw [IntWalk.i64_in _ (by omega)]; omega
            have hw : IntKind.i64.wrap ((k : Int) + 1) = ((k + 1 : Nat) : Int) := by rw [IntWalk.i64_in _ (by omega)]; rfl
            simp only [go_sem, reduceCtorEq, Nat.reduceAdd, Nat.reduceMul, Nat.reduceLeDiff, Nat.reduceLT, Int.reduceLE, Int.reduceLT, Int.reduceEq, Nat.reduceBEq, Nat.reduceEqDiff, c1, getD_mapT _ hlt, e1, e2, hw2]
            refine ih l' (by omega) (by omega) _ _ _ (fun ex' n K hK => ?_) (fun d n ok hM => ?_)
            · subst hs
              rw [List.append_assoc, List.append_assoc] at hK
              have := hp _ n K hK
              rw [← List.append_assoc, ← List.append_assoc] at this
              simpa only [List.append_assoc] using this
            · unfold Meas at hM
              cases ok with
              | false =>
                rw [if_neg (by decide)] at hM
                simp only [go_sem, reduceCtorEq, Nat.reduceAdd, Nat.reduceMul, Nat.reduceLeDiff, Nat.reduceLT, Int.reduceLE, Int.reduceLT, Int.reduceEq, Nat.reduceBEq, Nat.reduceEqDiff]
                refine fin_tup3 ⟨_, by rw [hs, List.append_assoc]⟩ (h 0 0 false ?_)
                unfold Meas
                rw [if_neg (by decide)]
                intro ⟨z1, z2, z3⟩
                refine hM ⟨?_, by omega, by omega⟩
                rw [hgt, Bool.and_eq_true] at z1
                exact good_mem hmem z1.2
              | true =>
                rw [if_pos rfl] at hM
                obtain ⟨m1, m2, m3, m4, m5⟩ := hM
                subst m3
                subst m4
                have hmax : (if (dp (t.args.getD k default) : Int) > (dpL (t.args.take k) : Nat) then (dp (t.args.getD k default) : Int) else (dpL (t.args.take k) : Nat)) = ((dpL (t.args.take (k + 1)) : Nat) : Int) := by split <;> omega
                have hwa : IntKind.i64.wrap (((1 + ndL (t.args.take k) : Nat) : Int) + (nd (t.args.getD k default) : Int)) = ((1 + ndL (t.args.take (k + 1)) : Nat) : Int) := by rw [IntWalk.i64_in _ (by omega)]; omega
                simp only [go_sem, reduceCtorEq, Nat.reduceAdd, Nat.reduceMul, Nat.reduceLeDiff, Nat.reduceLT, Int.reduceLE, Int.reduceLT, Int.reduceEq, Nat.reduceBEq, Nat.reduceEqDiff, hw, hwa, maxV, maxOk, hmax]
                refine ⟨m - 1, _, by omega, ?_, k + 1, ex ++ [.cells (tySV (t.args.getD k default)).cells], by omega, by rw [hg1, hgk, m1]; rfl, by omega, by omega, by omega, rfl, by rw [hs, List.append_assoc]⟩
                repeat (first | exact leEnv_nil | refine leEnv_any _ ?_ | refine leEnv_same _ ?_ | refine leEnv_norm _ ?_)
      · obtain rfl : k = t.args.length := by omega
        rw [List.take_length] at *
        have hw1 : IntKind.i64.wrap ((dpL t.args : Int) + 1) = ((dp t : Nat) : Int) := by rw [IntWalk.i64_in _ (by omega)]; omega
        simp only [go_sem, reduceCtorEq, Nat.reduceAdd, Nat.reduceMul, Nat.reduceLeDiff, Nat.reduceLT, Int.reduceLE, Int.reduceLT, Int.reduceEq, Nat.reduceBEq, Nat.reduceEqDiff, Int.lt_irrefl]
        refine awp_draw [] Tryd.mixed rfl ?_
        simp only [go_sem, reduceCtorEq, Nat.reduceAdd, Nat.reduceMul, Nat.reduceLeDiff, Nat.reduceLT, Int.reduceLE, Int.reduceLT, Int.reduceEq, Nat.reduceBEq, Nat.reduceEqDiff, hw1]
        refine fin_tup3 ⟨_, hs⟩ (h _ _ _ ?_)
        unfold Meas
        cases hname : (t.name.toList == ByteArray.toList ⟨#[]⟩) with
        | true =>
          rw [if_neg (by decide), hgt, hname]
          intro ⟨z, _⟩
          cases z
        | false =>
          rw [if_pos (by decide), hgt, hname, hgk]
          exact ⟨rfl, by omega, by omega, rfl, by omega⟩
    · have e0 : (t.v != 0) = true := by simp [hv]
      have e2 : ((t.args.length : Int) == 0) = (t.args.length == 0) := by rw [Bool.eq_iff_iff]; simp
      rw [if_neg hv] at hgt
      have fin : ∀ ok, goodB p t = ok → t.args = [] ∨ ok = false → FinK st K (.tuple [.sc (.int .i64 1), .sc (.int .i64 1), .sc (.bool ok)]) st := by
        intro ok hok ha
        refine fin_tup3 ⟨[], by simp⟩ (h 1 1 ok ?_)
        unfold Meas
        cases ok with
        | false => rw [if_neg (by decide), hok]; intro ⟨z, _⟩; cases z
        | true =>
          have ha : t.args = [] := by simpa using ha
          rw [if_pos rfl, hnt, hdt, ha]
          exact ⟨hok, by simp [dpL], by simp [ndL], by simp [dpL], by simp [ndL]; omega⟩
      cases hname : (t.name.toList == ByteArray.toList ⟨#[]⟩) with
      | false =>
        rw [hname] at hgt
        simp only [go_sem, reduceCtorEq, Nat.reduceAdd, Nat.reduceMul, Nat.reduceLeDiff, Nat.reduceLT, Int.reduceLE, Int.reduceLT, Int.reduceEq, Nat.reduceBEq, Nat.reduceEqDiff, e0, hname]
        exact fin false hgt (.inr rfl)
      | true =>
        cases hlen : (t.args.length == 0) with
        | false =>
          rw [hname, hlen] at hgt
          simp only [go_sem, reduceCtorEq, Nat.reduceAdd, Nat.reduceMul, Nat.reduceLeDiff, Nat.reduceLT, Int.reduceLE, Int.reduceLT, Int.reduceEq, Nat.reduceBEq, Nat.reduceEqDiff, e0, hname, e2, hlen]
          exact fin false hgt (.inr rfl)
        | true =>
          rw [hname, hlen] at hgt
          simp only [go_sem, reduceCtorEq, Nat.reduceAdd, Nat.reduceMul, Nat.reduceLeDiff, Nat.reduceLT, Int.reduceLE, Int.reduceLT, Int.reduceEq, Nat.reduceBEq, Nat.reduceEqDiff, e0, hname, e2, hlen, hg]
          have hpp := fun K h => hp0 t.v K h
          simp only [List.append_assoc] at hpp
          refine hpp _ ?_
          simp only [go_sem, reduceCtorEq, Nat.reduceAdd, Nat.reduceMul, Nat.reduceLeDiff, Nat.reduceLT, Int.reduceLE, Int.reduceLT, Int.reduceEq, Nat.reduceBEq, Nat.reduceEqDiff, hname, e2, hlen]
          refine fin _ ?_ (.inl ?_)
          · rw [hgt]; rfl
          · simpa using hlen

/-- May a type be, by what tells of its variables? -/
theorem well_c (p : Int → Bool) (g : FuncId) (fs cs : List SV) (hg : aBody Tryd.prog g = true) (t : Ty) (K : SV → St → Prop) (st : St)
    (hp : ∀ (ex : St) (n : Int) (K : SV → St → Prop), K (.sc (.bool (p n))) (st ++ ex) → ACalls Tryd.prog g (fs ++ [.sc (.int .i64 n)] ++ cs) K (st ++ ex))
    (h : K (.sc (.bool (mayB p t))) st) : ACalls Tryd.prog 24 [tySV t, .func (.func g) fs cs] K st := by
  refine acalls_go_pure [] Tryd.func24 rfl Tryd.results24 Tryd.ntmps24 ?_
  simp only [go_sem, reduceCtorEq, Nat.reduceAdd, Nat.reduceMul, Nat.reduceLeDiff, Nat.reduceLT, Int.reduceLE, Int.reduceLT, Int.reduceEq, Nat.reduceBEq, Nat.reduceEqDiff]
  refine measure_c p g fs cs hg 39 (by omega) t _ _ hp (fun d n ok hM => ?_)
  unfold Meas at hM
  unfold mayB at h
  cases ok with
  | false =>
    simp only [go_sem, reduceCtorEq, Nat.reduceAdd, Nat.reduceMul, Nat.reduceLeDiff, Nat.reduceLT, Int.reduceLE, Int.reduceLT, Int.reduceEq, Nat.reduceBEq, Nat.reduceEqDiff]
    refine fin_sc ?_
    have : (goodB p t && (decide (dp t ≤ 40) && decide (nd t ≤ 200))) = false := by
      rw [Bool.eq_false_iff]; simp only [ne_eq, Bool.and_eq_true, decide_eq_true_eq]
      exact hM
    rwa [this] at h
  | true =>
    rw [if_pos rfl] at hM
    obtain ⟨m1, m2, m3, m4, m5⟩ := hM
    simp only [go_sem, reduceCtorEq, Nat.reduceAdd, Nat.reduceMul, Nat.reduceLeDiff, Nat.reduceLT, Int.reduceLE, Int.reduceLT, Int.reduceEq, Nat.reduceBEq, Nat.reduceEqDiff]
    refine fin_sc ?_
    have : (goodB p t && (decide (dp t ≤ 40) && decide (nd t ≤ 200))) = decide (n ≤ 200) := by
      rw [m1, show decide (dp t ≤ 40) = true by simp; omega, Bool.eq_iff_iff]; simp; omega
    rwa [this] at h

/-- May a type be, by a state of so many variables? -/
theorem May_c (id : Nat) (vs : Int) (m : SV) (t : Ty) (K : SV → St → Prop) (st : St) (ho : isObj st id) (hv : objAt st id = [.sc (.int .i64 vs), m])
    (h : K (.sc (.bool (mayB (fun n => decide (1 ≤ n) && decide (n ≤ vs)) t))) st) : ACalls Tryd.prog 16 [.ptr id 0, tySV t] K st := by
  refine acalls_go_pure [] Tryd.func16 rfl Tryd.results16 Tryd.ntmps16 ?_
  simp only [go_sem, reduceCtorEq, Nat.reduceAdd, Nat.reduceMul, Nat.reduceLeDiff, Nat.reduceLT, Int.reduceLE, Int.reduceLT, Int.reduceEq, Nat.reduceBEq, Nat.reduceEqDiff]
  refine well_c (fun n => decide (1 ≤ n) && decide (n ≤ vs)) 34 [.ptr id 0] [] Tryd.abody34 t _ _ (fun ex n K hK => ?_) ?_
  · exact own_c n vs m K _ (by rw [isObj_more ho]; trivial) (by rw [objAt_more ho]; exact hv) hK
  · simp only [go_sem, reduceCtorEq, Nat.reduceAdd, Nat.reduceMul, Nat.reduceLeDiff, Nat.reduceLT, Int.reduceLE, Int.reduceLT, Int.reduceEq, Nat.reduceBEq, Nat.reduceEqDiff]
    exact fin_sc h

end Go.Proofs
set_option linter.unusedSimpArgs false
set_option maxRecDepth 8000
namespace Go.Proofs
open Go Go.AL

def cut8 (s : ByteArray) : ByteArray := if 8 < s.size then s.extract 0 8 else s

def cutT : Nat → Ty → Ty
  | 0, n => .mk n.v (cut8 n.name) []
  | d + 1, n => .mk n.v (cut8 n.name) ((n.args.take 5).map (cutT d))

def cutArgs : Nat → List Ty → List Ty
  | 0, _ => []
  | d + 1, l => (l.take 5).map (cutT d)

theorem cutT_eq (d : Nat) (n : Ty) : cutT d n = .mk n.v (cut8 n.name) (cutArgs d n.args) := by
  cases d <;> rfl

theorem get_app1 (st : St) (a b : Ob) : (st ++ [a, b])[st.length + 1]? = some b := by simp

def cutN (d : Nat) (n : Nat) : Nat := if d = 0 then 0 else min n 5

theorem cutArgs_len (d : Nat) (l : List Ty) : (cutArgs d l).length = cutN d l.length := by
  cases d <;> simp [cutArgs, cutN]; omega

theorem app3 {n : Nat} (h : n ≤ 1000000) : AppOk Tryd.prog 23 23 3 n := appOk_of Tryd.aelem23 Tryd.aelem23 Tryd.asize25 Tryd.azero25 rfl Tryd.abytes25 (by omega) h

set_option maxHeartbeats 4000000 in
theorem cut_c : ∀ (d : Nat), d ≤ 100 → ∀ (n : Ty) (K : SV → St → Prop) (st : St), K (tySV (cutT d n)) st → ACalls Tryd.prog 9 [tySV n, .sc (.int .i64 d)] K st := by
  intro d
  induction d using Nat.strongRecOn with
  | _ d ih =>
    intro hd n K st h
    rw [cutT_eq, tySV_eq] at h
    refine acalls_le ?_
    refine acalls_go_pure [] Tryd.func9 rfl Tryd.results9 Tryd.ntmps9 ?_
    rw [tySV_eq]
    simp only [go_sem, reduceCtorEq, Nat.reduceAdd, Nat.reduceMul, Nat.reduceLeDiff, Nat.reduceLT, Int.reduceLE, Int.reduceLT, Int.reduceEq, Nat.reduceBEq, Nat.reduceEqDiff]
    refine ⟨fun hs => ⟨⟨by omega, by simp only [decide_eq_true_eq] at hs; omega⟩, ?_⟩, fun hs => ?_⟩
    all_goals
      refine awp_ownC (st.length + 1) 2 3 0 (get_app1 st _ _) (by simp) rfl ?_
      simp only [go_sem, reduceCtorEq, Nat.reduceAdd, Nat.reduceMul, Nat.reduceLeDiff, Nat.reduceLT, Int.reduceLE, Int.reduceLT, Int.reduceEq, Nat.reduceBEq, Nat.reduceEqDiff]
      refine awp_rounds [] (fun m e s => ∃ (k : Nat) (t : ByteArray), k + m = cutN d n.args.length ∧ t = cut8 n.name ∧ e = [.any, .sc (.int .i64 d), .ref [.sc (.int .i64 n.v), .sc (.string n.name), .slice .imm 3 (n.args.map tySV)], .any, .ptr st.length 0, .ptr (st.length + 1) 0, .sc (.int .i64 k), .any, .any, .any, .any, .any, .any, .any, .any, .any, .any, .any, .any, .any, .any, .any, .any, .any, .any, .any, .any, .any, .any, .any, .any, .any, .any, .any, .any, .any, .any, .any, .any, .any, .any, .any, .any, .any, .any, .any, .any, .any, .any] ∧
        s = st ++ [.cells [.sc (.int .i64 0), .sc (.string ⟨#[]⟩), .slice .full 0 []], .cells [.sc (.int .i64 n.v), .sc (.string t), .slice (.own (st.length + 2) k) 3 (((cutArgs d n.args).take k).map tySV)], .tok k]) (n := cutN d n.args.length) ?_ ⟨0, _, by omega, ?_, rfl, rfl⟩ ?_
      · repeat (first | exact leEnv_nil | refine leEnv_any _ ?_ | refine leEnv_same _ ?_ | refine leEnv_norm _ ?_)
      · unfold cut8; first | rw [if_pos (by simp only [decide_eq_true_eq] at hs; omega)]; rfl | rw [if_neg (by simp only [decide_eq_false_iff_not] at hs; omega)]
      rintro m e s ⟨k, t, hkm, ht, rfl, rfl⟩
      simp only [go_sem, reduceCtorEq, Nat.reduceAdd, Nat.reduceMul, Nat.reduceLeDiff, Nat.reduceLT, Int.reduceLE, Int.reduceLT, Int.reduceEq, Nat.reduceBEq, Nat.reduceEqDiff]
      refine ⟨fun hc => ?_, fun hc => ?_⟩
      · simp only [Bool.and_eq_true, decide_eq_true_eq] at hc
        obtain ⟨⟨c1, c2⟩, c3⟩ := hc
        have hlt : k < n.args.length := by omega
        obtain ⟨d', rfl⟩ : ∃ d', d = d' + 1 := ⟨d - 1, by omega⟩
        have hw : IntKind.i64.wrap ((k : Int) + 1) = ((k + 1 : Nat) : Int) := by rw [IntWalk.i64_in _ (by omega)]; rfl
        have hw2 : IntKind.i64.wrap (((d' + 1 : Nat) : Int) - 1) = (d' : Int) := by rw [IntWalk.i64_in _ (by omega)]; omega
        have hN : k < cutN (d' + 1) n.args.length := by simp [cutN]; omega
        have hel : (cutArgs (d' + 1) n.args).getD k default = cutT d' (n.args.getD k default) := by
          simp [cutArgs, List.getD_eq_getElem?_getD, List.getElem?_take, show k < 5 by omega, hlt]
        have hts : ((cutArgs (d' + 1) n.args).take (k + 1)).map tySV = ((cutArgs (d' + 1) n.args).take k).map tySV ++ [tySV (cutT d' (n.args.getD k default))] := by
          rw [take_snocT _ (by rw [cutArgs_len]; exact hN), hel]; simp
        have hlen : ((cutArgs (d' + 1) n.args).take k).length + 1 ≤ 1000000 := by rw [List.length_take]; omega
        refine awp_drawE [] [11, 13] [0, 1, 2, 3, 4, 5, 6, 7, 8, 9, 10] (fun _ => True) Tryd.mixed rfl rfl rfl rfl trivial ?_
        refine dE_early rfl rfl (.ptr (st.length + 1) 2) (by simp only [go_sem, reduceCtorEq, Nat.reduceAdd, Nat.reduceMul, Nat.reduceLeDiff, Nat.reduceLT, Int.reduceLE, Int.reduceLT, Int.reduceEq, Nat.reduceBEq, Nat.reduceEqDiff]) ?_
        refine dE_early rfl rfl (.slice (.own (st.length + 2) k) 3 (((cutArgs (d' + 1) n.args).take k).map tySV)) (by simp only [go_sem, reduceCtorEq, Nat.reduceAdd, Nat.reduceMul, Nat.reduceLeDiff, Nat.reduceLT, Int.reduceLE, Int.reduceLT, Int.reduceEq, Nat.reduceBEq, Nat.reduceEqDiff]) ?_
        refine dE_early rfl rfl (.ref [.slice .imm 3 (n.args.map tySV)]) (by simp only [go_sem, reduceCtorEq, Nat.reduceAdd, Nat.reduceMul, Nat.reduceLeDiff, Nat.reduceLT, Int.reduceLE, Int.reduceLT, Int.reduceEq, Nat.reduceBEq, Nat.reduceEqDiff]) ?_
        refine dE_early rfl rfl (.slice .imm 3 (n.args.map tySV)) (by simp only [go_sem, reduceCtorEq, Nat.reduceAdd, Nat.reduceMul, Nat.reduceLeDiff, Nat.reduceLT, Int.reduceLE, Int.reduceLT, Int.reduceEq, Nat.reduceBEq, Nat.reduceEqDiff]) ?_
        refine dE_early rfl rfl (.sc (.int .i64 k)) (by simp only [go_sem, reduceCtorEq, Nat.reduceAdd, Nat.reduceMul, Nat.reduceLeDiff, Nat.reduceLT, Int.reduceLE, Int.reduceLT, Int.reduceEq, Nat.reduceBEq, Nat.reduceEqDiff]) ?_
        refine dE_early rfl rfl (.ref (tySV (n.args.getD k default)).cells) (by simp only [go_sem, reduceCtorEq, Nat.reduceAdd, Nat.reduceMul, Nat.reduceLeDiff, Nat.reduceLT, Int.reduceLE, Int.reduceLT, Int.reduceEq, Nat.reduceBEq, Nat.reduceEqDiff, c1, getD_mapT _ hlt]) ?_
        refine dE_early rfl rfl (tySV (n.args.getD k default)) (by simp only [go_sem, reduceCtorEq, Nat.reduceAdd, Nat.reduceMul, Nat.reduceLeDiff, Nat.reduceLT, Int.reduceLE, Int.reduceLT, Int.reduceEq, Nat.reduceBEq, Nat.reduceEqDiff]) ?_
        refine dE_early rfl rfl (.sc (.int .i64 ((d' + 1 : Nat) : Int))) (by simp only [go_sem, reduceCtorEq, Nat.reduceAdd, Nat.reduceMul, Nat.reduceLeDiff, Nat.reduceLT, Int.reduceLE, Int.reduceLT, Int.reduceEq, Nat.reduceBEq, Nat.reduceEqDiff]) ?_
        refine dE_early rfl rfl (.sc (.int .i64 (d' : Int))) (by simp only [go_sem, reduceCtorEq, Nat.reduceAdd, Nat.reduceMul, Nat.reduceLeDiff, Nat.reduceLT, Int.reduceLE, Int.reduceLT, Int.reduceEq, Nat.reduceBEq, Nat.reduceEqDiff, hw2]) ?_
        refine dE_early rfl rfl (tySV (cutT d' (n.args.getD k default))) ?_ ?_
        · simp only [go_sem, reduceCtorEq, Nat.reduceAdd, Nat.reduceMul, Nat.reduceLeDiff, Nat.reduceLT, Int.reduceLE, Int.reduceLT, Int.reduceEq, Nat.reduceBEq, Nat.reduceEqDiff]
          refine ⟨_, ?_, rfl⟩
          simp only [go_sem, reduceCtorEq, Nat.reduceAdd, Nat.reduceMul, Nat.reduceLeDiff, Nat.reduceLT, Int.reduceLE, Int.reduceLT, Int.reduceEq, Nat.reduceBEq, Nat.reduceEqDiff]
          exact ih d' (by omega) (by omega) _ _ _ ⟨⟨[], by simp⟩, ids_ty _ _, .inl rfl⟩
        refine dE_early rfl rfl (.slice .full 3 [tySV (cutT d' (n.args.getD k default))]) ?_ ?_
        · simp only [go_sem, reduceCtorEq, Nat.reduceAdd, Nat.reduceMul, Nat.reduceLeDiff, Nat.reduceLT, Int.reduceLE, Int.reduceLT, Int.reduceEq, Nat.reduceBEq, Nat.reduceEqDiff]
          refine ⟨_, ?_, rfl⟩
          simp only [go_sem, reduceCtorEq, Nat.reduceAdd, Nat.reduceMul, Nat.reduceLeDiff, Nat.reduceLT, Int.reduceLE, Int.reduceLT, Int.reduceEq, Nat.reduceBEq, Nat.reduceEqDiff]
          refine ⟨⟨[], by simp⟩, ?_, .inl rfl⟩
          exact ids_tys _ _ (.inr rfl) [cutT d' (n.args.getD k default)]
        refine dE_turn rfl (.slice (.own (st.length + 2) (k + 1)) 3 (((cutArgs (d' + 1) n.args).take (k + 1)).map tySV)) (st ++ [.cells [.sc (.int .i64 0), .sc (.string ⟨#[]⟩), .slice .full 0 []], .cells [.sc (.int .i64 n.v), .sc (.string t), .slice (.own (st.length + 2) k) 3 (((cutArgs (d' + 1) n.args).take k).map tySV)], .tok (k + 1)]) ?_ rfl trivial ?_
        · simp only [go_sem, reduceCtorEq, Nat.reduceAdd, Nat.reduceMul, Nat.reduceLeDiff, Nat.reduceLT, Int.reduceLE, Int.reduceLT, Int.reduceEq, Nat.reduceBEq, Nat.reduceEqDiff]
          exact ⟨app3 hlen, by rw [hts]⟩
        refine dE_pure rfl rfl (.ptr (st.length + 1) 2) (fun s _ => by simp only [go_sem, reduceCtorEq, Nat.reduceAdd, Nat.reduceMul, Nat.reduceLeDiff, Nat.reduceLT, Int.reduceLE, Int.reduceLT, Int.reduceEq, Nat.reduceBEq, Nat.reduceEqDiff]) ?_
        refine dE_turn rfl .any (st ++ [.cells [.sc (.int .i64 0), .sc (.string ⟨#[]⟩), .slice .full 0 []], .cells [.sc (.int .i64 n.v), .sc (.string t), .slice (.own (st.length + 2) (k + 1)) 3 (((cutArgs (d' + 1) n.args).take (k + 1)).map tySV)], .tok (k + 1)]) ?_ rfl trivial ?_
        · simp only [go_sem, reduceCtorEq, Nat.reduceAdd, Nat.reduceMul, Nat.reduceLeDiff, Nat.reduceLT, Int.reduceLE, Int.reduceLT, Int.reduceEq, Nat.reduceBEq, Nat.reduceEqDiff]
        refine dE_end ?_
        simp only [go_sem, reduceCtorEq, Nat.reduceAdd, Nat.reduceMul, Nat.reduceLeDiff, Nat.reduceLT, Int.reduceLE, Int.reduceLT, Int.reduceEq, Nat.reduceBEq, Nat.reduceEqDiff, hw]
        refine ⟨m - 1, _, by omega, ?_, k + 1, _, by omega, ht, rfl, rfl⟩
        repeat (first | exact leEnv_nil | refine leEnv_any _ ?_ | refine leEnv_same _ ?_ | refine leEnv_norm _ ?_)
      · have hk : k = cutN d n.args.length := by
          have e : ¬ (k < cutN d n.args.length) := by
            intro hlt
            have : (decide ((k : Int) < (n.args.length : Int)) && decide ((k : Int) < 5) && decide ((0 : Int) < (d : Int))) = true := by
              unfold cutN at hlt
              split at hlt
              · omega
              · simp only [Bool.and_eq_true, decide_eq_true_eq]; omega
            rw [this] at hc; cases hc
          omega
        have htk : (cutArgs d n.args).take k = cutArgs d n.args := List.take_of_length_le (by rw [cutArgs_len]; omega)
        rw [htk]
        refine ⟨⟨_, rfl⟩, ?_, _, ?_, h⟩
        · simp only [norm, List.map_cons, List.map_nil, norm1, ids_agg, List.forall_mem_cons, ids_sc, true_and]
          exact ⟨ids_tys _ _ (.inl rfl) _, fun x hx => by cases hx⟩
        · subst ht
          exact SVle.refl _

end Go.Proofs
set_option linter.unusedSimpArgs false
set_option maxRecDepth 8000
namespace Go.Proofs
open Go Go.AL

theorem new_c (K : SV → St → Prop) (st : St) (h : K (.ptr (st.length + 1) 0) (st ++ [.map [], .cells [.sc (.int .i64 0), .mp st.length]])) : ACalls Tryd.prog 20 [] K st := by
  refine acalls_go (M := [3]) Tryd.func20 rfl Tryd.results20 Tryd.ntmps20 ?_
  simp only [go_sem, reduceCtorEq, Nat.reduceAdd, Nat.reduceMul, Nat.reduceLeDiff, Nat.reduceLT, Int.reduceLE, Int.reduceLT, Int.reduceEq, Nat.reduceBEq, Nat.reduceEqDiff]
  exact h

theorem variable_c (n : Int) (K : SV → St → Prop) (st : St) (h : K (tySV (.mk n ⟨#[]⟩ [])) st) : ACalls Tryd.prog 40 [.sc (.int .i64 n)] K st := by
  refine acalls_le ?_
  refine acalls_go_pure [] Tryd.func40 rfl Tryd.results40 Tryd.ntmps40 ?_
  rw [tySV_eq] at h
  simp only [go_sem, reduceCtorEq, Nat.reduceAdd, Nat.reduceMul, Nat.reduceLeDiff, Nat.reduceLT, Int.reduceLE, Int.reduceLT, Int.reduceEq, Nat.reduceBEq, Nat.reduceEqDiff]
  refine ⟨⟨_, rfl⟩, ?_, _, ?_, h⟩
  · simp only [norm, List.map_cons, List.map_nil, norm1, ids_agg, List.forall_mem_cons, ids_sc, true_and]
    exact ⟨ids_slice (.inl rfl) fun x hx => (by cases hx), fun x hx => by cases hx⟩
  · exact SVle.agg (.cons (SVle.refl _) (.cons (SVle.refl _) (.cons (SVle.nil _ _ _ (.inr rfl)) .nil)))

theorem fresh_c {id : Nat} {v : Int} {m : SV} (hv : 0 ≤ v ∧ v ≤ 1000000) {K : SV → St → Prop} {st : St} (hid : st[id]? = some (.cells [.sc (.int .i64 v), m])) (hm : Ids st.length m)
    (h : K (tySV (.mk (v + 1) ⟨#[]⟩ [])) (st.set id (.cells [.sc (.int .i64 (v + 1)), m]))) : ACalls Tryd.prog 21 [.ptr id 0] K st := by
  refine acalls_go_mod [] Tryd.func21 rfl Tryd.results21 Tryd.ntmps21 ?_
  obtain ⟨f1, f2, f3⟩ := cells_facts hid
  have hw : IntKind.i64.wrap (v + 1) = v + 1 := IntWalk.i64_in _ (by omega)
  simp only [go_sem, reduceCtorEq, Nat.reduceAdd, Nat.reduceMul, Nat.reduceLeDiff, Nat.reduceLT, Int.reduceLE, Int.reduceLT, Int.reduceEq, Nat.reduceBEq, Nat.reduceEqDiff, f1, f2, f3, hw]
  refine variable_c _ _ _ ?_
  simp only [go_sem, reduceCtorEq, Nat.reduceAdd, Nat.reduceMul, Nat.reduceLeDiff, Nat.reduceLT, Int.reduceLE, Int.reduceLT, Int.reduceEq, Nat.reduceBEq, Nat.reduceEqDiff, f1, f2, f3, hw]
  refine ⟨_, _, rfl, (Mod.refl st).set id _ ?_, by rw [norm_ty]; exact ids_ty _ _, by rw [norm_ty]; exact h⟩
  intro j hj
  match j, hj with
  | 0, _ => exact .sc _
  | 1, _ => exact hm

def zty : List SV := [.sc (.int .i64 0), .sc (.string ⟨#[]⟩), .slice .full 0 []]

def rty : Option Ty → List SV
  | none => [.sc (.int .i64 0), .sc (.string ⟨#[]⟩), .slice .full 0 []]
  | some t => (tySV t).cells

/-- What the document's state has: of each variable what it is bound to, if it is. -/
structure RSt (st : St) (id a b va vb : Nat) (R : List (Option Ty)) : Prop where
  hid : st[id]? = some (.cells [.arr a va R.length, .arr b vb R.length])
  ha : st[a]? = some (.arr va 3 (R.flatMap rty))
  hb : st[b]? = some (.arr vb 1 (R.map fun x => .sc (.bool x.isSome)))
  ne : a ≠ b

theorem rty_len (R : List (Option Ty)) : (R.flatMap rty).length = R.length * 3 := by
  induction R with
  | nil => rfl
  | cons x r ih =>
    rw [List.flatMap_cons, List.length_append, ih, List.length_cons]
    have : (rty x).length = 3 := by cases x with
      | none => rfl
      | some t => exact ty_len t
    omega

theorem RSt.neA {st : St} {id a b va vb : Nat} {R : List (Option Ty)} (h : RSt st id a b va vb R) : id ≠ a := by
  rintro rfl
  have := h.hid.symm.trans h.ha
  cases this
theorem RSt.neB {st : St} {id a b va vb : Nat} {R : List (Option Ty)} (h : RSt st id a b va vb R) : id ≠ b := by
  rintro rfl
  have := h.hid.symm.trans h.hb
  cases this

theorem app1b {n : Nat} (h : n ≤ 1000000) : AppOk Tryd.prog 48 48 1 n := appOk_of Tryd.aelem48 Tryd.aelem48 Tryd.asize4 Tryd.azero4 rfl Tryd.abytes4 (by omega) h

theorem ids_agg3 (n : Nat) (u v : Value) (m : AL.Mode) (hm : m = .imm ∨ m = .full) : Ids n (.agg [.sc u, .sc v, .slice m 0 []]) := by
  simp only [ids_agg, List.forall_mem_cons, ids_sc, true_and]
  exact ⟨ids_slice hm fun x hx => (by cases hx), fun x hx => by cases hx⟩

theorem ids_rty (n : Nat) (R : List (Option Ty)) : ∀ x ∈ R.flatMap rty, Ids n x := by
  intro x hx
  obtain ⟨o, _, ho⟩ := List.mem_flatMap.1 hx
  cases o with
  | none =>
    have := ids_agg3 n (.int .i64 0) (.string ⟨#[]⟩) .full (.inr rfl)
    rw [ids_agg] at this
    exact this x ho
  | some t =>
    have := ids_ty n t
    rw [tySV_eq, ids_agg, ← cells_ty] at this
    exact this x ho

theorem ids_z (n : Nat) (m : AL.Mode) (hm : m = .imm ∨ m = .full) : Ids n (.agg [.sc (.int .i64 0), .sc (.string ⟨#[]⟩), .slice m 0 []]) := by
  simp only [ids_agg, List.forall_mem_cons, ids_sc, true_and]
  exact ⟨ids_slice hm fun x hx => (by cases hx), fun x hx => by cases hx⟩

set_option maxHeartbeats 4000000 in
theorem rfresh_c {id a b va vb : Nat} {R : List (Option Ty)} {K : SV → St → Prop} {st : St} (hR : RSt st id a b va vb R) (hn : R.length ≤ 1000)
    (h : ∀ s, RSt s id a b (va + 1) (vb + 1) (R ++ [none]) → s.length = st.length → (∀ j, j ≠ id → j ≠ a → j ≠ b → s[j]? = st[j]?) → K (tySV (.mk (R.length + 1) ⟨#[]⟩ [])) s) : ACalls Tryd.prog 22 [.ptr id 0] K st := by
  refine acalls_le ?_
  refine acalls_go_mod [] Tryd.func22 rfl Tryd.results22 Tryd.ntmps22 ?_
  obtain ⟨f1, f2, f3⟩ := cells_facts hR.hid
  obtain ⟨g1, g2, g3, g4⟩ := arr_facts hR.ha
  obtain ⟨k1, k2, k3, k4⟩ := arr_facts hR.hb
  have n1 := hR.neA
  have n2 := hR.neB
  have n3 := hR.ne
  have hlen := rty_len R
  have hdr : (R.flatMap rty).drop (R.length * 3) = [] := List.drop_eq_nil_of_le (by omega)
  have htk : (R.flatMap rty).take (R.length * 3) = R.flatMap rty := List.take_of_length_le (by omega)
  simp only [go_sem, reduceCtorEq, Nat.reduceAdd, Nat.reduceMul, Nat.reduceLeDiff, Nat.reduceLT, Int.reduceLE, Int.reduceLT, Int.reduceEq, Nat.reduceBEq, Nat.reduceEqDiff, f1, f2, f3]
  have hdz : ((R ++ [none]).flatMap rty) = R.flatMap rty ++ [.sc (.int .i64 0), .sc (.string ⟨#[]⟩), .slice .full 0 []] := by simp [rty]
  have n1' := n1.symm
  have n2' := n2.symm
  have n3' := n3.symm
  have ht1 : (R.flatMap rty ++ [SV.sc (.int .i64 0), SV.sc (.string ⟨#[]⟩), SV.slice .imm 0 []]).take (R.length * 3) = R.flatMap rty := by rw [← hlen]; exact List.take_left
  have hd1 : (R.flatMap rty ++ [SV.sc (.int .i64 0), SV.sc (.string ⟨#[]⟩), SV.slice .imm 0 []]).drop (R.length * 3 + 3) = [] := List.drop_eq_nil_of_le (by rw [List.length_append, hlen]; simp)
  have hlt : (R.length : Int) < ((R.length + 1 : Nat) : Int) := by omega
  have happ : AppOk Tryd.prog 23 23 3 (R.length + 1) := app3 (by omega)
  refine awp_drawD [] [7, 9, 12] [([], st ++ [.cells [SV.sc (.int .i64 0), SV.sc (.string ⟨#[]⟩), SV.slice .full 0 []]]),
    ([7], st.set a (.arr (va + 1) 3 (R.flatMap rty ++ [SV.sc (.int .i64 0), SV.sc (.string ⟨#[]⟩), SV.slice .imm 0 []])) ++ [.cells [SV.sc (.int .i64 0), SV.sc (.string ⟨#[]⟩), SV.slice .full 0 []]]),
    ([7, 9], st.set a (.arr (va + 1) 3 (R.flatMap rty ++ [SV.sc (.int .i64 0), SV.sc (.string ⟨#[]⟩), SV.slice .full 0 []])) ++ [.cells [SV.sc (.int .i64 0), SV.sc (.string ⟨#[]⟩), SV.slice .full 0 []]]),
    ([7, 12], (st.set a (.arr (va + 1) 3 (R.flatMap rty ++ [SV.sc (.int .i64 0), SV.sc (.string ⟨#[]⟩), SV.slice .imm 0 []]))).set id (.cells [.arr a (va + 1) (R.length + 1), .arr b vb R.length]) ++ [.cells [SV.sc (.int .i64 0), SV.sc (.string ⟨#[]⟩), SV.slice .full 0 []]]),
    ([7, 9, 12], (st.set a (.arr (va + 1) 3 (R.flatMap rty ++ [SV.sc (.int .i64 0), SV.sc (.string ⟨#[]⟩), SV.slice .full 0 []]))).set id (.cells [.arr a (va + 1) (R.length + 1), .arr b vb R.length]) ++ [.cells [SV.sc (.int .i64 0), SV.sc (.string ⟨#[]⟩), SV.slice .full 0 []]])]
    [[[]], [[]], [[]], [[]], [[]], [[]], [[]], [[]], [[7], [7, 12]], [[7], [7, 12]], [[7], [7, 9]], [[7], [7, 9]], [[7], [7, 9]]] Tryd.mixed rfl rfl rfl rfl rfl ?_
  refine dD_p1 rfl (.ptr id 0) (by simp only [go_sem, reduceCtorEq, Nat.reduceAdd, Nat.reduceMul, Nat.reduceLeDiff, Nat.reduceLT, Int.reduceLE, Int.reduceLT, Int.reduceEq, Nat.reduceBEq, Nat.reduceEqDiff]) ?_
  refine dD_p1 rfl (.ptr id 0) (by simp only [go_sem, reduceCtorEq, Nat.reduceAdd, Nat.reduceMul, Nat.reduceLeDiff, Nat.reduceLT, Int.reduceLE, Int.reduceLT, Int.reduceEq, Nat.reduceBEq, Nat.reduceEqDiff]) ?_
  refine dD_p1 rfl (.ptr id 0) (by simp only [go_sem, reduceCtorEq, Nat.reduceAdd, Nat.reduceMul, Nat.reduceLeDiff, Nat.reduceLT, Int.reduceLE, Int.reduceLT, Int.reduceEq, Nat.reduceBEq, Nat.reduceEqDiff]) ?_
  refine dD_p1 rfl (.arr a va R.length) (by simp only [go_sem, reduceCtorEq, Nat.reduceAdd, Nat.reduceMul, Nat.reduceLeDiff, Nat.reduceLT, Int.reduceLE, Int.reduceLT, Int.reduceEq, Nat.reduceBEq, Nat.reduceEqDiff, f1, f2, f3]) ?_
  refine dD_p1 rfl (.agg [SV.sc (.int .i64 0), SV.sc (.string ⟨#[]⟩), SV.slice .full 0 []]) (by simp only [go_sem, reduceCtorEq, Nat.reduceAdd, Nat.reduceMul, Nat.reduceLeDiff, Nat.reduceLT, Int.reduceLE, Int.reduceLT, Int.reduceEq, Nat.reduceBEq, Nat.reduceEqDiff]; refine ⟨_, ?_, rfl⟩; simp only [go_sem, reduceCtorEq, Nat.reduceAdd, Nat.reduceMul, Nat.reduceLeDiff, Nat.reduceLT, Int.reduceLE, Int.reduceLT, Int.reduceEq, Nat.reduceBEq, Nat.reduceEqDiff]; exact ⟨⟨[], by simp⟩, ids_z _ _ (.inr rfl), .inl rfl⟩) ?_
  refine dD_p1 rfl (.sc (.int .i64 R.length)) (by simp only [go_sem, reduceCtorEq, Nat.reduceAdd, Nat.reduceMul, Nat.reduceLeDiff, Nat.reduceLT, Int.reduceLE, Int.reduceLT, Int.reduceEq, Nat.reduceBEq, Nat.reduceEqDiff, f1, f2, f3, g1, g2, g3, g4]) ?_
  refine dD_p1 rfl (.slice .full 3 [.agg [SV.sc (.int .i64 0), SV.sc (.string ⟨#[]⟩), SV.slice .imm 0 []]]) ?_ ?_
  · simp only [go_sem, reduceCtorEq, Nat.reduceAdd, Nat.reduceMul, Nat.reduceLeDiff, Nat.reduceLT, Int.reduceLE, Int.reduceLT, Int.reduceEq, Nat.reduceBEq, Nat.reduceEqDiff]
    refine ⟨_, ?_, rfl⟩
    simp only [go_sem, reduceCtorEq, Nat.reduceAdd, Nat.reduceMul, Nat.reduceLeDiff, Nat.reduceLT, Int.reduceLE, Int.reduceLT, Int.reduceEq, Nat.reduceBEq, Nat.reduceEqDiff]
    refine ⟨⟨[], by simp⟩, ids_slice (.inr rfl) ?_, .inl rfl⟩
    intro x hx y hy
    simp only [List.mem_singleton] at hx
    subst hx
    have h1 := ids_z (st ++ [Ob.cells [SV.sc (.int .i64 0), SV.sc (.string ⟨#[]⟩), SV.slice .full 0 []]]).length .imm (.inl rfl)
    rw [ids_agg] at h1
    exact h1 y hy
  refine dD_t1 (d := [7]) rfl rfl (.arr a (va + 1) (R.length + 1)) rfl ?_ ?_
  · simp only [go_sem, reduceCtorEq, Nat.reduceAdd, Nat.reduceMul, Nat.reduceLeDiff, Nat.reduceLT, Int.reduceLE, Int.reduceLT, Int.reduceEq, Nat.reduceBEq, Nat.reduceEqDiff, f1, f2, f3, g1, g2, g3, g4, n1, n1', List.flatMap_cons, List.flatMap_nil, htk]
    exact happ
  refine dD_p2 rfl (.aptr a (va + 1) (R.length * 3)) ?_ ?_ ?_
  · simp only [go_sem, reduceCtorEq, Nat.reduceAdd, Nat.reduceMul, Nat.reduceLeDiff, Nat.reduceLT, Int.reduceLE, Int.reduceLT, Int.reduceEq, Nat.reduceBEq, Nat.reduceEqDiff, f1, f2, f3, g1, g2, g3, g4, n1, n1', hlt]
  · simp only [go_sem, reduceCtorEq, Nat.reduceAdd, Nat.reduceMul, Nat.reduceLeDiff, Nat.reduceLT, Int.reduceLE, Int.reduceLT, Int.reduceEq, Nat.reduceBEq, Nat.reduceEqDiff, f1, f2, f3, g1, g2, g3, g4, n1, n1', hlt]
  refine dD_t2 (d := [7, 9]) (d2 := [7, 9, 12]) rfl rfl rfl .any rfl ?_ ?_ ?_
  · simp only [go_sem, reduceCtorEq, Nat.reduceAdd, Nat.reduceMul, Nat.reduceLeDiff, Nat.reduceLT, Int.reduceLE, Int.reduceLT, Int.reduceEq, Nat.reduceBEq, Nat.reduceEqDiff, f1, f2, f3, g1, g2, g3, g4, n1, n1', hlt, ht1, hd1]
    omega
  · simp only [go_sem, reduceCtorEq, Nat.reduceAdd, Nat.reduceMul, Nat.reduceLeDiff, Nat.reduceLT, Int.reduceLE, Int.reduceLT, Int.reduceEq, Nat.reduceBEq, Nat.reduceEqDiff, f1, f2, f3, g1, g2, g3, g4, n1, n1', hlt, ht1, hd1]
    refine ⟨by omega, ?_⟩
    rw [List.set_comm _ _ n1, set_set_same]
  refine dD_p2 rfl (.ptr id 0) (by simp only [go_sem, reduceCtorEq, Nat.reduceAdd, Nat.reduceMul, Nat.reduceLeDiff, Nat.reduceLT, Int.reduceLE, Int.reduceLT, Int.reduceEq, Nat.reduceBEq, Nat.reduceEqDiff]) (by simp only [go_sem, reduceCtorEq, Nat.reduceAdd, Nat.reduceMul, Nat.reduceLeDiff, Nat.reduceLT, Int.reduceLE, Int.reduceLT, Int.reduceEq, Nat.reduceBEq, Nat.reduceEqDiff]) ?_
  refine dD_p2 rfl (.ptr id 0) (by simp only [go_sem, reduceCtorEq, Nat.reduceAdd, Nat.reduceMul, Nat.reduceLeDiff, Nat.reduceLT, Int.reduceLE, Int.reduceLT, Int.reduceEq, Nat.reduceBEq, Nat.reduceEqDiff]) (by simp only [go_sem, reduceCtorEq, Nat.reduceAdd, Nat.reduceMul, Nat.reduceLeDiff, Nat.reduceLT, Int.reduceLE, Int.reduceLT, Int.reduceEq, Nat.reduceBEq, Nat.reduceEqDiff]) ?_
  refine dD_t2 (d := [7, 12]) (d2 := [7, 9, 12]) rfl rfl rfl .any rfl ?_ ?_ ?_
  · simp only [go_sem, reduceCtorEq, Nat.reduceAdd, Nat.reduceMul, Nat.reduceLeDiff, Nat.reduceLT, Int.reduceLE, Int.reduceLT, Int.reduceEq, Nat.reduceBEq, Nat.reduceEqDiff, f1, f2, f3, g1, g2, g3, g4, n1, n1']
  · simp only [go_sem, reduceCtorEq, Nat.reduceAdd, Nat.reduceMul, Nat.reduceLeDiff, Nat.reduceLT, Int.reduceLE, Int.reduceLT, Int.reduceEq, Nat.reduceBEq, Nat.reduceEqDiff, f1, f2, f3, g1, g2, g3, g4, n1, n1']
  refine dD_end ?_
  have hlen1 : (R.map fun x => SV.sc (.bool x.isSome)).take (R.length * 1) = R.map fun x => SV.sc (.bool x.isSome) := List.take_of_length_le (by simp)
  have happ2 : AppOk Tryd.prog 48 48 1 (R.length + 1) := app1b (by omega)
  simp only [go_sem, reduceCtorEq, Nat.reduceAdd, Nat.reduceMul, Nat.reduceLeDiff, Nat.reduceLT, Int.reduceLE, Int.reduceLT, Int.reduceEq, Nat.reduceBEq, Nat.reduceEqDiff, f1, f2, f3, g1, g2, g3, g4, n1, n1', k1, k2, k3, k4, n2, n2', n3, n3', hlen1]
  refine ⟨happ2, _, _, rfl, ?_, by simp only [norm, List.map_cons, List.map_nil, norm1]; exact ids_agg3 _ _ _ _ (.inl rfl), _, ?_, h _ ⟨?_, ?_, ?_, n3⟩ (by simp) (fun j j1 j2 j3 => ?_)⟩
  · refine ((((Mod.refl st).set a _ ?_).set id _ ?_).set b _ ?_).set id _ ?_
    · rw [obIds_arr]
      intro x hx
      rcases List.mem_append.1 hx with h1 | h1
      · exact ids_rty _ R x h1
      · exact ids_rty _ [none] x h1
    · simp only [obIds_cells, List.forall_mem_cons, ids_arr_eq, List.length_set]
      exact ⟨inS_get hR.ha, inS_get hR.hb, fun x hx => by cases hx⟩
    · rw [obIds_arr]
      intro x hx
      rcases List.mem_append.1 hx with h1 | h1
      · obtain ⟨y, _, rfl⟩ := List.mem_map.1 h1; exact .sc _
      · simp [SV.cells] at h1; subst h1; exact .sc _
    · simp only [obIds_cells, List.forall_mem_cons, ids_arr_eq, List.length_set]
      exact ⟨inS_get hR.ha, inS_get hR.hb, fun x hx => by cases hx⟩
  · simp only [norm, List.map_cons, List.map_nil, norm1]
    rw [tySV_eq]
    exact SVle.agg (.cons (SVle.refl _) (.cons (SVle.refl _) (.cons (SVle.nil _ _ _ (.inr rfl)) .nil)))
  · have := lt_of_get hR.hid; rw [set_get (by simpa using this)]; simp
  · rw [List.getElem?_set_ne n1, List.getElem?_set_ne n3', List.getElem?_set_ne n1, get_setS hR.ha, List.flatMap_append]; rfl
  · rw [List.getElem?_set_ne n2, set_get, List.map_append]
    · rfl
    · simp; exact inS_get hR.hb
  · rw [List.getElem?_set_ne (Ne.symm j1), List.getElem?_set_ne (Ne.symm j3), List.getElem?_set_ne (Ne.symm j1), List.getElem?_set_ne (Ne.symm j2)]

end Go.Proofs
set_option linter.unusedSimpArgs false
set_option maxRecDepth 8000
namespace Go.Proofs
open Go Go.AL

/-- Behind so many rounds of begin. -/
structure Begun (st s : St) (k : Nat) : Prop where
  len : s.length = st.length + 5
  old : ∀ j, j < st.length → s[j]? = st[j]?
  bound : s[st.length]? = some (.map [])
  own : s[st.length + 1]? = some (.cells [.sc (.int .i64 k), .mp st.length])
  ref : ∃ va vb, RSt s (st.length + 2) (st.length + 3) (st.length + 4) va vb (List.replicate k none)

theorem rep_snoc (k : Nat) : List.replicate k (none : Option Ty) ++ [none] = List.replicate (k + 1) none := by
  rw [List.replicate_succ']

theorem Begun.next {st s s' : St} {k : Nat} (h : Begun st s k) {va vb : Nat} (hl : s'.length = (s.set (st.length + 1) (.cells [.sc (.int .i64 ((k : Int) + 1)), .mp st.length])).length)
    (hR : RSt s' (st.length + 2) (st.length + 3) (st.length + 4) va vb (List.replicate k none ++ [none]))
    (ho : ∀ j, j ≠ st.length + 2 → j ≠ st.length + 3 → j ≠ st.length + 4 → s'[j]? = (s.set (st.length + 1) (.cells [.sc (.int .i64 ((k : Int) + 1)), .mp st.length]))[j]?) : Begun st s' (k + 1) := by
  refine ⟨by rw [hl, List.length_set, h.len], fun j hj => ?_, ?_, ?_, va, vb, by rw [← rep_snoc]; exact hR⟩
  · rw [ho j (by omega) (by omega) (by omega), List.getElem?_set_ne (by omega)]; exact h.old j hj
  · rw [ho _ (by omega) (by omega) (by omega), List.getElem?_set_ne (by omega)]; exact h.bound
  · rw [ho _ (by omega) (by omega) (by omega), get_setS h.own]; rfl

set_option maxHeartbeats 4000000 in
theorem begin_c (K : SV → St → Prop) (st : St) (h : ∀ s, Begun st s 6 → K (.tuple [.ptr (st.length + 1) 0, .ptr (st.length + 2) 0]) s) : ACalls Tryd.prog 7 [] K st := by
  refine acalls_go (M := [7]) Tryd.func7 rfl Tryd.results7 Tryd.ntmps7 ?_
  simp only [go_sem, reduceCtorEq, Nat.reduceAdd, Nat.reduceMul, Nat.reduceLeDiff, Nat.reduceLT, Int.reduceLE, Int.reduceLT, Int.reduceEq, Nat.reduceBEq, Nat.reduceEqDiff]
  refine new_c _ _ ?_
  simp only [go_sem, reduceCtorEq, Nat.reduceAdd, Nat.reduceMul, Nat.reduceLeDiff, Nat.reduceLT, Int.reduceLE, Int.reduceLT, Int.reduceEq, Nat.reduceBEq, Nat.reduceEqDiff]
  refine awp_arrC (st.length + 2) 0 3 0 (l := [.slice .full 0 [], .slice .full 0 []]) (by simp) (by simp) rfl ?_
  refine awp_arrC (st.length + 2) 1 1 0 (l := [.arr (st.length + 3) 0 0, .slice .full 0 []]) (by simp) (by simp) rfl ?_
  refine awp_rounds [] (fun m e s => ∃ (k : Nat), k + m = 6 ∧ e = [.any, .any, .ptr (st.length + 1) 0, .ptr (st.length + 2) 0, .sc (.int .i64 k), .any, .any, .any, .any, .any, .any, .any, .any, .any, .any, .any, .any, .any, .any, .any, .any, .any] ∧ Begun st s k) (n := 6) ?_ ⟨0, by omega, rfl, ?_⟩ ?_
  · repeat (first | exact leEnv_nil | refine leEnv_any _ ?_ | refine leEnv_same _ ?_ | refine leEnv_norm _ ?_)
  · refine ⟨by simp, fun j hj => ?_, by simp, by simp, 0, 0, ?_, ?_, ?_, by omega⟩
    · simp [List.getElem?_append, hj]
    · simp
    · simp
    · simp
  rintro m e s ⟨k, hkm, rfl, hB⟩
  by_cases hlt : k < 6
  · have c1 : (k : Int) < 6 := by omega
    have hw : IntKind.i64.wrap ((k : Int) + 1) = ((k + 1 : Nat) : Int) := by rw [IntWalk.i64_in _ (by omega)]; rfl
    obtain ⟨va, vb, hR⟩ := hB.ref
    have hlen := hB.len
    simp only [go_sem, reduceCtorEq, Nat.reduceAdd, Nat.reduceMul, Nat.reduceLeDiff, Nat.reduceLT, Int.reduceLE, Int.reduceLT, Int.reduceEq, Nat.reduceBEq, Nat.reduceEqDiff, c1]
    refine fresh_c (by omega) hB.own (.mp _ (by omega)) ?_
    simp only [go_sem, reduceCtorEq, Nat.reduceAdd, Nat.reduceMul, Nat.reduceLeDiff, Nat.reduceLT, Int.reduceLE, Int.reduceLT, Int.reduceEq, Nat.reduceBEq, Nat.reduceEqDiff, c1]
    refine rfresh_c (va := va) (vb := vb) (R := List.replicate k none) ⟨?_, ?_, ?_, hR.ne⟩ (by simp; omega) (fun s' h1 h2 h3 => ?_)
    · exact get_set_ne hR.hid _ (by omega)
    · exact get_set_ne hR.ha _ (by omega)
    · exact get_set_ne hR.hb _ (by omega)
    simp only [go_sem, reduceCtorEq, Nat.reduceAdd, Nat.reduceMul, Nat.reduceLeDiff, Nat.reduceLT, Int.reduceLE, Int.reduceLT, Int.reduceEq, Nat.reduceBEq, Nat.reduceEqDiff, hw]
    refine ⟨m - 1, _, by omega, ?_, k + 1, by omega, rfl, hB.next h2 h1 h3⟩
    repeat (first | exact leEnv_nil | refine leEnv_any _ ?_ | refine leEnv_same _ ?_ | refine leEnv_norm _ ?_)
  · obtain rfl : k = 6 := by omega
    have c1 : (((6 : Nat) : Int) < 6) = False := eq_false (by omega)
    simp only [go_sem, reduceCtorEq, Nat.reduceAdd, Nat.reduceMul, Nat.reduceLeDiff, Nat.reduceLT, Int.reduceLE, Int.reduceLT, Int.reduceEq, Nat.reduceBEq, Nat.reduceEqDiff, c1]
    exact h s hB

end Go.Proofs
