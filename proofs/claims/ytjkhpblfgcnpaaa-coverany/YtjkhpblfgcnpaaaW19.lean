/- Rows of numbers: what Check tells of them. -/
import Derived.Test.YtjkhpblfgcnpaaaW18
set_option linter.unusedSimpArgs false
set_option maxRecDepth 100000
namespace Go.Proofs
open Go Go.AL

def intN (n : Int) : Nd := .mk 1 ⟨#[]⟩ n 0 [] []
def nums (n : Nat) : List Nd := (List.range n).map fun (i : Nat) => intN (3 * (Int.ofNat i))

theorem nums_all : (List.range 26).all (fun n => (chkF [] 100000 (nums n)).2 == (if 20 < n then 1 else 26) && (chkF [] 100000 (nums n ++ [anyN])).2 == (if n ≤ 19 then 0 else 1)) = true := by decide +kernel

theorem nums_chk {n : Nat} (h : n < 26) : (chkF [] 100000 (nums n)).2 = (if 20 < n then 1 else 26) ∧ (chkF [] 100000 (nums n ++ [anyN])).2 = (if n ≤ 19 then 0 else 1) := by
  have := List.all_eq_true.1 nums_all n (List.mem_range.2 h)
  simpa only [Bool.and_eq_true, beq_iff_eq] using this

theorem nums_succ (k : Nat) : nums (k + 1) = nums k ++ [intN (3 * Int.ofNat k)] := by
  unfold nums; rw [List.range_succ, List.map_append]; rfl
theorem nums_len (k : Nat) : (nums k).length = k := by simp [nums]

theorem low_nil : Low [] := ⟨by simp, fun c hc => by cases hc⟩

def rawI (x : Int) : SV := .agg [.sc (.int .i64 1), .sc (.string ⟨#[]⟩), .sc (.int .i64 x), .sc (.int .i64 0), .slice .imm 0 [], .slice .imm 0 []]
def raws (k : Nat) : List SV := (List.range k).map fun (i : Nat) => rawI (3 * Int.ofNat i)
theorem raws_succ (k : Nat) : raws (k + 1) = raws k ++ [rawI (3 * (k : Int))] := by
  unfold raws; rw [List.range_succ, List.map_append]; rfl
theorem raws_len (k : Nat) : (raws k).length = k := by simp [raws]

theorem b1 : ((1 : Int) == 1) = true := rfl
theorem b2 : ((26 : Int) == 26) = true := rfl
theorem b3 : ((0 : Int) == 0) = true := rfl
theorem b4 : ((1 : Int) == 0) = false := rfl
theorem cases3 (k : Nat) : 20 < k ∨ k ≤ 19 ∨ k = 20 := by omega
theorem nil_le : SVle (.slice .full 0 []) (consSV []) := fun _ _ _ _ h => (rep_nil_z (z' := 5) h (.inl rfl)).norm1
theorem map_le {α : Type} (f g : α → SV) (h : ∀ x, SVles (f x).cells (g x).cells) : ∀ l : List α, SVlesE (l.map f) (l.map g)
  | [] => .nil
  | x :: r => .cons (h x) (map_le f g h r)
theorem raw_le (x : Int) : SVles (rawI x).cells (nodeSV (intN x)).cells := by
  rw [nodeSV_eq]
  exact .cons (SVle.refl _) (.cons (SVle.refl _) (.cons (SVle.refl _) (.cons (SVle.refl _) (.cons (SVle.nil _ _ _ (.inr rfl)) (.cons (SVle.nil _ _ _ (.inr rfl)) .nil)))))
theorem raws_le (k : Nat) : SVlesE (raws k) ((nums k).map nodeSV) := by
  unfold raws nums
  rw [List.map_map]
  exact map_le _ _ (fun i => raw_le _) _
theorem lesE_app {a b c d : List SV} (h : SVlesE a b) (k : SVlesE c d) : SVlesE (a ++ c) (b ++ d) := by
  induction h with
  | nil => exact k
  | cons h1 _ ih => exact .cons h1 ih
theorem nums_le (k : Nat) {m : AL.Mode} : SVle (.slice m 6 (raws k)) (nodesSV (nums k)) := SVle.slice (by cases m <;> rfl) (raws_le k)
theorem nums_le2 (k : Nat) {m : AL.Mode} : SVle (.slice m 6 (raws k ++ [nodeSV anyN])) (nodesSV (nums k ++ [anyN])) := by
  unfold nodesSV
  rw [List.map_append]
  exact SVle.slice (by cases m <;> rfl) (lesE_app (raws_le k) (.cons (SVles.refl _) .nil))
theorem nums_nl (k : Nat) : nlL (nums k) = k := by
  induction k with
  | zero => rfl
  | succ k ih => rw [nums_succ, nlL_append, ih]; simp [nlL, nl, intN]
theorem nums_cnt (k : Nat) : ∀ p ∈ nums k, cnt p ≤ 100000 := by
  intro p hp
  obtain ⟨i, _, rfl⟩ := List.mem_map.1 hp
  simp [cnt, cntL, intN]
theorem nums_cnt2 (k : Nat) : ∀ p ∈ nums k ++ [anyN], cnt p ≤ 100000 := by
  intro p hp
  rcases List.mem_append.1 hp with h | h
  · exact nums_cnt k p h
  · simp at h; subst h; simp [cnt, cntL, anyN]

set_option maxHeartbeats 4000000 in
theorem many_c (n0 : Int) (hin : -9223372036854775808 ≤ n0 ∧ n0 ≤ 9223372036854775807) (K : SV → St → Prop) (st : St) (h : K (.sc (.bool true)) st) : ACalls Try.prog 3 [.sc (.int .i64 n0)] K st := by
  refine acalls_go_pure [] Try.func3 rfl Try.results3 Try.ntmps3 ?_
  have hx : ∀ x : Int, 0 ≤ x → ∃ n : Nat, n < 26 ∧ x.tmod 26 = (n : Int) := by
    intro x hx
    refine ⟨(x.tmod 26).toNat, ?_, ?_⟩ <;> have := Int.tmod_nonneg 26 hx <;> have := Int.tmod_lt_of_pos x (show (0 : Int) < 26 by omega) <;> omega
  have d26 : ((26 : Int) = 0) = False := eq_false (by omega)
  have hboth : (decide (n0 < 0) = true ∧ ∃ n : Nat, n < 26 ∧ (IntKind.i64.wrap (0 - IntKind.i64.wrap (n0 + 1))).tmod 26 = (n : Int)) ∨ (decide (n0 < 0) = false ∧ ∃ n : Nat, n < 26 ∧ n0.tmod 26 = (n : Int)) := by
    by_cases hn : n0 < 0
    · refine .inl ⟨by simpa using hn, ?_⟩
      rw [IntWalk.i64_in (n0 + 1) (by omega), IntWalk.i64_in _ (by omega)]
      exact hx _ (by omega)
    · exact .inr ⟨by simpa using hn, hx _ (by omega)⟩
  rcases hboth with ⟨hd, n, hn26, hv⟩ | ⟨hd, n, hn26, hv⟩
  · simp only [go_sem, imp_self, implies_true, reduceCtorEq, false_imp_iff, true_imp_iff, decide_true, decide_false, Int.toNat_natCast, Int.toNat_zero, Int.toNat_one, Int.natCast_nonneg, Int.le_refl, Nat.le_refl, Nat.reduceAdd, Nat.reduceMul, Nat.reduceLeDiff, Nat.reduceLT, Int.reduceLE, Int.reduceLT, Nat.reduceBEq, Nat.reduceEqDiff, Bool.not_true, Bool.not_false, Bool.and_false, Bool.false_and, Bool.or_true, Bool.true_or, Bool.or_false, Bool.false_or, call_funcH, c_drawH, c_loopH, gAll_F, gIf_F, pickB_true, pickB_false, Array.toList_append, List.cons_append, List.nil_append, opTmps, List.contains_cons, List.contains_nil, hd, hv, d26, not_false_eq_true, ne_eq]
    refine awp_own 3 6 0 rfl ?_
    simp only [go_sem]
    refine awp_rounds [] (fun l e s => ∃ (k ver : Nat), k + l = n ∧ e = [.sc (.int .i64 (n : Int)), .any, .sc (.bool false), .slice (.own st.length ver) 6 (raws k), .sc (.int .i64 (k : Int)), .any, .any, .any, .any, .any, .any, .any, .any, .any, .any, .any, .any, .any, .any, .any, .any, .any, .any, .any, .any, .any, .any, .any, .any, .any, .any, .any, .any, .any, .any, .any, .any, .any, .any, .any, .any, .any, .any, .any, .any, .any, .any, .any, .any, .any, .any, .any, .any, .any, .any, .any, .any, .any, .any, .any, .any, .any, .any, .any] ∧ s = st ++ [.tok ver]) (n := n) ?_ ⟨0, 0, by omega, rfl, rfl⟩ ?_
    · repeat (first | exact leEnv_nil | refine leEnv_any _ ?_ | refine leEnv_same _ ?_)
    · rintro l e s ⟨k, ver, hkl, rfl, rfl⟩
      by_cases hlt : k < n
      · have i1 : (k : Int) < (n : Int) := by omega
        have hw := wrap_succ k (by omega)
        have hw3 : IntKind.i64.wrap (3 * (k : Int)) = 3 * (k : Int) := IntWalk.i64_in _ (by omega)
        have hrs := raws_succ k
        have hrl : (raws k).length + 1 ≤ 1000000 := by rw [raws_len]; omega
        have hrs' : raws k ++ [SV.agg [.sc (.int .i64 1), .sc (.string ⟨#[]⟩), .sc (.int .i64 (3 * (k : Int))), .sc (.int .i64 0), .slice .imm 0 [], .slice .imm 0 []]] = raws (k + 1) := hrs.symm
        simp only [go_sem, imp_self, implies_true, reduceCtorEq, false_imp_iff, true_imp_iff, decide_true, decide_false, Int.toNat_natCast, Int.toNat_zero, Int.toNat_one, Int.natCast_nonneg, Int.le_refl, Nat.le_refl, Nat.reduceAdd, Nat.reduceMul, Nat.reduceLeDiff, Nat.reduceLT, Int.reduceLE, Int.reduceLT, Nat.reduceBEq, Nat.reduceEqDiff, Bool.not_true, Bool.not_false, Bool.and_false, Bool.false_and, Bool.or_true, Bool.true_or, Bool.or_false, Bool.false_or, call_funcH, c_drawH, c_loopH, gAll_F, gIf_F, pickB_true, pickB_false, Array.toList_append, List.cons_append, List.nil_append, opTmps, List.contains_cons, List.contains_nil, i1, hw, hw3, hrs']
        refine ⟨app22 hrl, l - 1, _, by omega, ?_, k + 1, ver + 1, by omega, rfl, rfl⟩
        repeat (first | exact leEnv_nil | refine leEnv_any _ ?_ | refine leEnv_same _ ?_)
      · obtain rfl : k = n := by omega
        have d1 : ((k : Int) < (k : Int)) = False := eq_false (by omega)
        have hal : (raws k).length + 1 ≤ 1000000 := by rw [raws_len]; omega
        refine (cases3 k).elim (fun hc => ?_) fun hc => hc.elim (fun hc => ?_) (fun hc => ?_)
        · have c20 : ((20 : Int) < (k : Int)) = True := eq_true (by omega)
          have c19 : ((k : Int) ≤ 19) = False := eq_false (by omega)
          have e1 := (nums_chk hn26).1
          have e2 := (nums_chk hn26).2
          rw [if_pos hc] at e1
          rw [if_neg (by omega)] at e2
          simp only [go_sem, imp_self, implies_true, reduceCtorEq, false_imp_iff, true_imp_iff, decide_true, decide_false, Int.toNat_natCast, Int.toNat_zero, Int.toNat_one, Int.natCast_nonneg, Int.le_refl, Nat.le_refl, Nat.reduceAdd, Nat.reduceMul, Nat.reduceLeDiff, Nat.reduceLT, Int.reduceLE, Int.reduceLT, Nat.reduceBEq, Nat.reduceEqDiff, Bool.not_true, Bool.not_false, Bool.and_false, Bool.false_and, Bool.or_true, Bool.true_or, Bool.or_false, Bool.false_or, call_funcH, c_drawH, c_loopH, gAll_F, gIf_F, pickB_true, pickB_false, Array.toList_append, List.cons_append, List.nil_append, opTmps, List.contains_cons, List.contains_nil, d1]
          refine acalls_args (args' := [nodesSV (nums k), consSV []]) (.cons (nums_le k) (.cons nil_le .nil)) ?_
          refine chk_c [] low_nil (fun c hc => by cases hc) (nums k) (by rw [nums_len]; omega) (nums_cnt k) (by rw [nums_nl]; omega) _ _ ?_
          simp only [go_sem, imp_self, implies_true, reduceCtorEq, false_imp_iff, true_imp_iff, decide_true, decide_false, Int.toNat_natCast, Int.toNat_zero, Int.toNat_one, Int.natCast_nonneg, Int.le_refl, Nat.le_refl, Nat.reduceAdd, Nat.reduceMul, Nat.reduceLeDiff, Nat.reduceLT, Int.reduceLE, Int.reduceLT, Nat.reduceBEq, Nat.reduceEqDiff, Bool.not_true, Bool.not_false, Bool.and_false, Bool.false_and, Bool.or_true, Bool.true_or, Bool.or_false, Bool.false_or, call_funcH, c_drawH, c_loopH, gAll_F, gIf_F, pickB_true, pickB_false, Array.toList_append, List.cons_append, List.nil_append, opTmps, List.contains_cons, List.contains_nil, e1]
          refine any_c _ _ ?_
          simp only [go_sem, imp_self, implies_true, reduceCtorEq, false_imp_iff, true_imp_iff, decide_true, decide_false, Int.toNat_natCast, Int.toNat_zero, Int.toNat_one, Int.natCast_nonneg, Int.le_refl, Nat.le_refl, Nat.reduceAdd, Nat.reduceMul, Nat.reduceLeDiff, Nat.reduceLT, Int.reduceLE, Int.reduceLT, Nat.reduceBEq, Nat.reduceEqDiff, Bool.not_true, Bool.not_false, Bool.and_false, Bool.false_and, Bool.or_true, Bool.true_or, Bool.or_false, Bool.false_or, call_funcH, c_drawH, c_loopH, gAll_F, gIf_F, pickB_true, pickB_false, Array.toList_append, List.cons_append, List.nil_append, opTmps, List.contains_cons, List.contains_nil]
          refine ⟨app22 hal, ?_⟩
          refine acalls_args (args' := [nodesSV (nums k ++ [anyN]), consSV []]) (.cons (nums_le2 k) (.cons nil_le .nil)) ?_
          refine chk_c [] low_nil (fun c hc => by cases hc) (nums k ++ [anyN]) (by simp [nums_len]; omega) (nums_cnt2 k) (by rw [nlL_append, nums_nl]; simp [nlL, nl, anyN]; omega) _ _ ?_
          simp only [go_sem, imp_self, implies_true, reduceCtorEq, false_imp_iff, true_imp_iff, decide_true, decide_false, Int.toNat_natCast, Int.toNat_zero, Int.toNat_one, Int.natCast_nonneg, Int.le_refl, Nat.le_refl, Nat.reduceAdd, Nat.reduceMul, Nat.reduceLeDiff, Nat.reduceLT, Int.reduceLE, Int.reduceLT, Nat.reduceBEq, Nat.reduceEqDiff, Bool.not_true, Bool.not_false, Bool.and_false, Bool.false_and, Bool.or_true, Bool.true_or, Bool.or_false, Bool.false_or, call_funcH, c_drawH, c_loopH, gAll_F, gIf_F, pickB_true, pickB_false, Array.toList_append, List.cons_append, List.nil_append, opTmps, List.contains_cons, List.contains_nil, e1, e2, c20, c19, b1, b2, b3, b4]
          refine lives_c _ _ ?_
          simp only [go_sem, imp_self, implies_true, reduceCtorEq, false_imp_iff, true_imp_iff, decide_true, decide_false, Int.toNat_natCast, Int.toNat_zero, Int.toNat_one, Int.natCast_nonneg, Int.le_refl, Nat.le_refl, Nat.reduceAdd, Nat.reduceMul, Nat.reduceLeDiff, Nat.reduceLT, Int.reduceLE, Int.reduceLT, Nat.reduceBEq, Nat.reduceEqDiff, Bool.not_true, Bool.not_false, Bool.and_false, Bool.false_and, Bool.or_true, Bool.true_or, Bool.or_false, Bool.false_or, call_funcH, c_drawH, c_loopH, gAll_F, gIf_F, pickB_true, pickB_false, Array.toList_append, List.cons_append, List.nil_append, opTmps, List.contains_cons, List.contains_nil, e1, e2, c20, c19, b1, b2, b3, b4]
          exact ⟨⟨_, rfl⟩, .sc _, h⟩
        · have c20 : ((20 : Int) < (k : Int)) = False := eq_false (by omega)
          have c19 : ((k : Int) ≤ 19) = True := eq_true (by omega)
          have e1 := (nums_chk hn26).1
          have e2 := (nums_chk hn26).2
          rw [if_neg (by omega)] at e1
          rw [if_pos hc] at e2
          simp only [go_sem, imp_self, implies_true, reduceCtorEq, false_imp_iff, true_imp_iff, decide_true, decide_false, Int.toNat_natCast, Int.toNat_zero, Int.toNat_one, Int.natCast_nonneg, Int.le_refl, Nat.le_refl, Nat.reduceAdd, Nat.reduceMul, Nat.reduceLeDiff, Nat.reduceLT, Int.reduceLE, Int.reduceLT, Nat.reduceBEq, Nat.reduceEqDiff, Bool.not_true, Bool.not_false, Bool.and_false, Bool.false_and, Bool.or_true, Bool.true_or, Bool.or_false, Bool.false_or, call_funcH, c_drawH, c_loopH, gAll_F, gIf_F, pickB_true, pickB_false, Array.toList_append, List.cons_append, List.nil_append, opTmps, List.contains_cons, List.contains_nil, d1]
          refine acalls_args (args' := [nodesSV (nums k), consSV []]) (.cons (nums_le k) (.cons nil_le .nil)) ?_
          refine chk_c [] low_nil (fun c hc => by cases hc) (nums k) (by rw [nums_len]; omega) (nums_cnt k) (by rw [nums_nl]; omega) _ _ ?_
          simp only [go_sem, imp_self, implies_true, reduceCtorEq, false_imp_iff, true_imp_iff, decide_true, decide_false, Int.toNat_natCast, Int.toNat_zero, Int.toNat_one, Int.natCast_nonneg, Int.le_refl, Nat.le_refl, Nat.reduceAdd, Nat.reduceMul, Nat.reduceLeDiff, Nat.reduceLT, Int.reduceLE, Int.reduceLT, Nat.reduceBEq, Nat.reduceEqDiff, Bool.not_true, Bool.not_false, Bool.and_false, Bool.false_and, Bool.or_true, Bool.true_or, Bool.or_false, Bool.false_or, call_funcH, c_drawH, c_loopH, gAll_F, gIf_F, pickB_true, pickB_false, Array.toList_append, List.cons_append, List.nil_append, opTmps, List.contains_cons, List.contains_nil, e1]
          refine any_c _ _ ?_
          simp only [go_sem, imp_self, implies_true, reduceCtorEq, false_imp_iff, true_imp_iff, decide_true, decide_false, Int.toNat_natCast, Int.toNat_zero, Int.toNat_one, Int.natCast_nonneg, Int.le_refl, Nat.le_refl, Nat.reduceAdd, Nat.reduceMul, Nat.reduceLeDiff, Nat.reduceLT, Int.reduceLE, Int.reduceLT, Nat.reduceBEq, Nat.reduceEqDiff, Bool.not_true, Bool.not_false, Bool.and_false, Bool.false_and, Bool.or_true, Bool.true_or, Bool.or_false, Bool.false_or, call_funcH, c_drawH, c_loopH, gAll_F, gIf_F, pickB_true, pickB_false, Array.toList_append, List.cons_append, List.nil_append, opTmps, List.contains_cons, List.contains_nil]
          refine ⟨app22 hal, ?_⟩
          refine acalls_args (args' := [nodesSV (nums k ++ [anyN]), consSV []]) (.cons (nums_le2 k) (.cons nil_le .nil)) ?_
          refine chk_c [] low_nil (fun c hc => by cases hc) (nums k ++ [anyN]) (by simp [nums_len]; omega) (nums_cnt2 k) (by rw [nlL_append, nums_nl]; simp [nlL, nl, anyN]; omega) _ _ ?_
          simp only [go_sem, imp_self, implies_true, reduceCtorEq, false_imp_iff, true_imp_iff, decide_true, decide_false, Int.toNat_natCast, Int.toNat_zero, Int.toNat_one, Int.natCast_nonneg, Int.le_refl, Nat.le_refl, Nat.reduceAdd, Nat.reduceMul, Nat.reduceLeDiff, Nat.reduceLT, Int.reduceLE, Int.reduceLT, Nat.reduceBEq, Nat.reduceEqDiff, Bool.not_true, Bool.not_false, Bool.and_false, Bool.false_and, Bool.or_true, Bool.true_or, Bool.or_false, Bool.false_or, call_funcH, c_drawH, c_loopH, gAll_F, gIf_F, pickB_true, pickB_false, Array.toList_append, List.cons_append, List.nil_append, opTmps, List.contains_cons, List.contains_nil, e1, e2, c20, c19, b1, b2, b3, b4]
          refine lives_c _ _ ?_
          simp only [go_sem, imp_self, implies_true, reduceCtorEq, false_imp_iff, true_imp_iff, decide_true, decide_false, Int.toNat_natCast, Int.toNat_zero, Int.toNat_one, Int.natCast_nonneg, Int.le_refl, Nat.le_refl, Nat.reduceAdd, Nat.reduceMul, Nat.reduceLeDiff, Nat.reduceLT, Int.reduceLE, Int.reduceLT, Nat.reduceBEq, Nat.reduceEqDiff, Bool.not_true, Bool.not_false, Bool.and_false, Bool.false_and, Bool.or_true, Bool.true_or, Bool.or_false, Bool.false_or, call_funcH, c_drawH, c_loopH, gAll_F, gIf_F, pickB_true, pickB_false, Array.toList_append, List.cons_append, List.nil_append, opTmps, List.contains_cons, List.contains_nil, e1, e2, c20, c19, b1, b2, b3, b4]
          exact ⟨⟨_, rfl⟩, .sc _, h⟩
        · have c20 : ((20 : Int) < (k : Int)) = False := eq_false (by omega)
          have c19 : ((k : Int) ≤ 19) = False := eq_false (by omega)
          have e1 := (nums_chk hn26).1
          have e2 := (nums_chk hn26).2
          rw [if_neg (by omega)] at e1
          rw [if_neg (by omega)] at e2
          simp only [go_sem, imp_self, implies_true, reduceCtorEq, false_imp_iff, true_imp_iff, decide_true, decide_false, Int.toNat_natCast, Int.toNat_zero, Int.toNat_one, Int.natCast_nonneg, Int.le_refl, Nat.le_refl, Nat.reduceAdd, Nat.reduceMul, Nat.reduceLeDiff, Nat.reduceLT, Int.reduceLE, Int.reduceLT, Nat.reduceBEq, Nat.reduceEqDiff, Bool.not_true, Bool.not_false, Bool.and_false, Bool.false_and, Bool.or_true, Bool.true_or, Bool.or_false, Bool.false_or, call_funcH, c_drawH, c_loopH, gAll_F, gIf_F, pickB_true, pickB_false, Array.toList_append, List.cons_append, List.nil_append, opTmps, List.contains_cons, List.contains_nil, d1]
          refine acalls_args (args' := [nodesSV (nums k), consSV []]) (.cons (nums_le k) (.cons nil_le .nil)) ?_
          refine chk_c [] low_nil (fun c hc => by cases hc) (nums k) (by rw [nums_len]; omega) (nums_cnt k) (by rw [nums_nl]; omega) _ _ ?_
          simp only [go_sem, imp_self, implies_true, reduceCtorEq, false_imp_iff, true_imp_iff, decide_true, decide_false, Int.toNat_natCast, Int.toNat_zero, Int.toNat_one, Int.natCast_nonneg, Int.le_refl, Nat.le_refl, Nat.reduceAdd, Nat.reduceMul, Nat.reduceLeDiff, Nat.reduceLT, Int.reduceLE, Int.reduceLT, Nat.reduceBEq, Nat.reduceEqDiff, Bool.not_true, Bool.not_false, Bool.and_false, Bool.false_and, Bool.or_true, Bool.true_or, Bool.or_false, Bool.false_or, call_funcH, c_drawH, c_loopH, gAll_F, gIf_F, pickB_true, pickB_false, Array.toList_append, List.cons_append, List.nil_append, opTmps, List.contains_cons, List.contains_nil, e1]
          refine any_c _ _ ?_
          simp only [go_sem, imp_self, implies_true, reduceCtorEq, false_imp_iff, true_imp_iff, decide_true, decide_false, Int.toNat_natCast, Int.toNat_zero, Int.toNat_one, Int.natCast_nonneg, Int.le_refl, Nat.le_refl, Nat.reduceAdd, Nat.reduceMul, Nat.reduceLeDiff, Nat.reduceLT, Int.reduceLE, Int.reduceLT, Nat.reduceBEq, Nat.reduceEqDiff, Bool.not_true, Bool.not_false, Bool.and_false, Bool.false_and, Bool.or_true, Bool.true_or, Bool.or_false, Bool.false_or, call_funcH, c_drawH, c_loopH, gAll_F, gIf_F, pickB_true, pickB_false, Array.toList_append, List.cons_append, List.nil_append, opTmps, List.contains_cons, List.contains_nil]
          refine ⟨app22 hal, ?_⟩
          refine acalls_args (args' := [nodesSV (nums k ++ [anyN]), consSV []]) (.cons (nums_le2 k) (.cons nil_le .nil)) ?_
          refine chk_c [] low_nil (fun c hc => by cases hc) (nums k ++ [anyN]) (by simp [nums_len]; omega) (nums_cnt2 k) (by rw [nlL_append, nums_nl]; simp [nlL, nl, anyN]; omega) _ _ ?_
          simp only [go_sem, imp_self, implies_true, reduceCtorEq, false_imp_iff, true_imp_iff, decide_true, decide_false, Int.toNat_natCast, Int.toNat_zero, Int.toNat_one, Int.natCast_nonneg, Int.le_refl, Nat.le_refl, Nat.reduceAdd, Nat.reduceMul, Nat.reduceLeDiff, Nat.reduceLT, Int.reduceLE, Int.reduceLT, Nat.reduceBEq, Nat.reduceEqDiff, Bool.not_true, Bool.not_false, Bool.and_false, Bool.false_and, Bool.or_true, Bool.true_or, Bool.or_false, Bool.false_or, call_funcH, c_drawH, c_loopH, gAll_F, gIf_F, pickB_true, pickB_false, Array.toList_append, List.cons_append, List.nil_append, opTmps, List.contains_cons, List.contains_nil, e1, e2, c20, c19, b1, b2, b3, b4]
          refine lives_c _ _ ?_
          simp only [go_sem, imp_self, implies_true, reduceCtorEq, false_imp_iff, true_imp_iff, decide_true, decide_false, Int.toNat_natCast, Int.toNat_zero, Int.toNat_one, Int.natCast_nonneg, Int.le_refl, Nat.le_refl, Nat.reduceAdd, Nat.reduceMul, Nat.reduceLeDiff, Nat.reduceLT, Int.reduceLE, Int.reduceLT, Nat.reduceBEq, Nat.reduceEqDiff, Bool.not_true, Bool.not_false, Bool.and_false, Bool.false_and, Bool.or_true, Bool.true_or, Bool.or_false, Bool.false_or, call_funcH, c_drawH, c_loopH, gAll_F, gIf_F, pickB_true, pickB_false, Array.toList_append, List.cons_append, List.nil_append, opTmps, List.contains_cons, List.contains_nil, e1, e2, c20, c19, b1, b2, b3, b4]
          exact ⟨⟨_, rfl⟩, .sc _, h⟩
  · simp only [go_sem, imp_self, implies_true, reduceCtorEq, false_imp_iff, true_imp_iff, decide_true, decide_false, Int.toNat_natCast, Int.toNat_zero, Int.toNat_one, Int.natCast_nonneg, Int.le_refl, Nat.le_refl, Nat.reduceAdd, Nat.reduceMul, Nat.reduceLeDiff, Nat.reduceLT, Int.reduceLE, Int.reduceLT, Nat.reduceBEq, Nat.reduceEqDiff, Bool.not_true, Bool.not_false, Bool.and_false, Bool.false_and, Bool.or_true, Bool.true_or, Bool.or_false, Bool.false_or, call_funcH, c_drawH, c_loopH, gAll_F, gIf_F, pickB_true, pickB_false, Array.toList_append, List.cons_append, List.nil_append, opTmps, List.contains_cons, List.contains_nil, hd, hv, d26, not_false_eq_true, ne_eq]
    refine awp_own 3 6 0 rfl ?_
    simp only [go_sem]
    refine awp_rounds [] (fun l e s => ∃ (k ver : Nat), k + l = n ∧ e = [.sc (.int .i64 (n : Int)), .any, .sc (.bool false), .slice (.own st.length ver) 6 (raws k), .sc (.int .i64 (k : Int)), .any, .any, .any, .any, .any, .any, .any, .any, .any, .any, .any, .any, .any, .any, .any, .any, .any, .any, .any, .any, .any, .any, .any, .any, .any, .any, .any, .any, .any, .any, .any, .any, .any, .any, .any, .any, .any, .any, .any, .any, .any, .any, .any, .any, .any, .any, .any, .any, .any, .any, .any, .any, .any, .any, .any, .any, .any, .any, .any] ∧ s = st ++ [.tok ver]) (n := n) ?_ ⟨0, 0, by omega, rfl, rfl⟩ ?_
    · repeat (first | exact leEnv_nil | refine leEnv_any _ ?_ | refine leEnv_same _ ?_)
    · rintro l e s ⟨k, ver, hkl, rfl, rfl⟩
      by_cases hlt : k < n
      · have i1 : (k : Int) < (n : Int) := by omega
        have hw := wrap_succ k (by omega)
        have hw3 : IntKind.i64.wrap (3 * (k : Int)) = 3 * (k : Int) := IntWalk.i64_in _ (by omega)
        have hrs := raws_succ k
        have hrl : (raws k).length + 1 ≤ 1000000 := by rw [raws_len]; omega
        have hrs' : raws k ++ [SV.agg [.sc (.int .i64 1), .sc (.string ⟨#[]⟩), .sc (.int .i64 (3 * (k : Int))), .sc (.int .i64 0), .slice .imm 0 [], .slice .imm 0 []]] = raws (k + 1) := hrs.symm
        simp only [go_sem, imp_self, implies_true, reduceCtorEq, false_imp_iff, true_imp_iff, decide_true, decide_false, Int.toNat_natCast, Int.toNat_zero, Int.toNat_one, Int.natCast_nonneg, Int.le_refl, Nat.le_refl, Nat.reduceAdd, Nat.reduceMul, Nat.reduceLeDiff, Nat.reduceLT, Int.reduceLE, Int.reduceLT, Nat.reduceBEq, Nat.reduceEqDiff, Bool.not_true, Bool.not_false, Bool.and_false, Bool.false_and, Bool.or_true, Bool.true_or, Bool.or_false, Bool.false_or, call_funcH, c_drawH, c_loopH, gAll_F, gIf_F, pickB_true, pickB_false, Array.toList_append, List.cons_append, List.nil_append, opTmps, List.contains_cons, List.contains_nil, i1, hw, hw3, hrs']
        refine ⟨app22 hrl, l - 1, _, by omega, ?_, k + 1, ver + 1, by omega, rfl, rfl⟩
        repeat (first | exact leEnv_nil | refine leEnv_any _ ?_ | refine leEnv_same _ ?_)
      · obtain rfl : k = n := by omega
        have d1 : ((k : Int) < (k : Int)) = False := eq_false (by omega)
        have hal : (raws k).length + 1 ≤ 1000000 := by rw [raws_len]; omega
        refine (cases3 k).elim (fun hc => ?_) fun hc => hc.elim (fun hc => ?_) (fun hc => ?_)
        · have c20 : ((20 : Int) < (k : Int)) = True := eq_true (by omega)
          have c19 : ((k : Int) ≤ 19) = False := eq_false (by omega)
          have e1 := (nums_chk hn26).1
          have e2 := (nums_chk hn26).2
          rw [if_pos hc] at e1
          rw [if_neg (by omega)] at e2
          simp only [go_sem, imp_self, implies_true, reduceCtorEq, false_imp_iff, true_imp_iff, decide_true, decide_false, Int.toNat_natCast, Int.toNat_zero, Int.toNat_one, Int.natCast_nonneg, Int.le_refl, Nat.le_refl, Nat.reduceAdd, Nat.reduceMul, Nat.reduceLeDiff, Nat.reduceLT, Int.reduceLE, Int.reduceLT, Nat.reduceBEq, Nat.reduceEqDiff, Bool.not_true, Bool.not_false, Bool.and_false, Bool.false_and, Bool.or_true, Bool.true_or, Bool.or_false, Bool.false_or, call_funcH, c_drawH, c_loopH, gAll_F, gIf_F, pickB_true, pickB_false, Array.toList_append, List.cons_append, List.nil_append, opTmps, List.contains_cons, List.contains_nil, d1]
          refine acalls_args (args' := [nodesSV (nums k), consSV []]) (.cons (nums_le k) (.cons nil_le .nil)) ?_
          refine chk_c [] low_nil (fun c hc => by cases hc) (nums k) (by rw [nums_len]; omega) (nums_cnt k) (by rw [nums_nl]; omega) _ _ ?_
          simp only [go_sem, imp_self, implies_true, reduceCtorEq, false_imp_iff, true_imp_iff, decide_true, decide_false, Int.toNat_natCast, Int.toNat_zero, Int.toNat_one, Int.natCast_nonneg, Int.le_refl, Nat.le_refl, Nat.reduceAdd, Nat.reduceMul, Nat.reduceLeDiff, Nat.reduceLT, Int.reduceLE, Int.reduceLT, Nat.reduceBEq, Nat.reduceEqDiff, Bool.not_true, Bool.not_false, Bool.and_false, Bool.false_and, Bool.or_true, Bool.true_or, Bool.or_false, Bool.false_or, call_funcH, c_drawH, c_loopH, gAll_F, gIf_F, pickB_true, pickB_false, Array.toList_append, List.cons_append, List.nil_append, opTmps, List.contains_cons, List.contains_nil, e1]
          refine any_c _ _ ?_
          simp only [go_sem, imp_self, implies_true, reduceCtorEq, false_imp_iff, true_imp_iff, decide_true, decide_false, Int.toNat_natCast, Int.toNat_zero, Int.toNat_one, Int.natCast_nonneg, Int.le_refl, Nat.le_refl, Nat.reduceAdd, Nat.reduceMul, Nat.reduceLeDiff, Nat.reduceLT, Int.reduceLE, Int.reduceLT, Nat.reduceBEq, Nat.reduceEqDiff, Bool.not_true, Bool.not_false, Bool.and_false, Bool.false_and, Bool.or_true, Bool.true_or, Bool.or_false, Bool.false_or, call_funcH, c_drawH, c_loopH, gAll_F, gIf_F, pickB_true, pickB_false, Array.toList_append, List.cons_append, List.nil_append, opTmps, List.contains_cons, List.contains_nil]
          refine ⟨app22 hal, ?_⟩
          refine acalls_args (args' := [nodesSV (nums k ++ [anyN]), consSV []]) (.cons (nums_le2 k) (.cons nil_le .nil)) ?_
          refine chk_c [] low_nil (fun c hc => by cases hc) (nums k ++ [anyN]) (by simp [nums_len]; omega) (nums_cnt2 k) (by rw [nlL_append, nums_nl]; simp [nlL, nl, anyN]; omega) _ _ ?_
          simp only [go_sem, imp_self, implies_true, reduceCtorEq, false_imp_iff, true_imp_iff, decide_true, decide_false, Int.toNat_natCast, Int.toNat_zero, Int.toNat_one, Int.natCast_nonneg, Int.le_refl, Nat.le_refl, Nat.reduceAdd, Nat.reduceMul, Nat.reduceLeDiff, Nat.reduceLT, Int.reduceLE, Int.reduceLT, Nat.reduceBEq, Nat.reduceEqDiff, Bool.not_true, Bool.not_false, Bool.and_false, Bool.false_and, Bool.or_true, Bool.true_or, Bool.or_false, Bool.false_or, call_funcH, c_drawH, c_loopH, gAll_F, gIf_F, pickB_true, pickB_false, Array.toList_append, List.cons_append, List.nil_append, opTmps, List.contains_cons, List.contains_nil, e1, e2, c20, c19, b1, b2, b3, b4]
          refine lives_c _ _ ?_
          simp only [go_sem, imp_self, implies_true, reduceCtorEq, false_imp_iff, true_imp_iff, decide_true, decide_false, Int.toNat_natCast, Int.toNat_zero, Int.toNat_one, Int.natCast_nonneg, Int.le_refl, Nat.le_refl, Nat.reduceAdd, Nat.reduceMul, Nat.reduceLeDiff, Nat.reduceLT, Int.reduceLE, Int.reduceLT, Nat.reduceBEq, Nat.reduceEqDiff, Bool.not_true, Bool.not_false, Bool.and_false, Bool.false_and, Bool.or_true, Bool.true_or, Bool.or_false, Bool.false_or, call_funcH, c_drawH, c_loopH, gAll_F, gIf_F, pickB_true, pickB_false, Array.toList_append, List.cons_append, List.nil_append, opTmps, List.contains_cons, List.contains_nil, e1, e2, c20, c19, b1, b2, b3, b4]
          exact ⟨⟨_, rfl⟩, .sc _, h⟩
        · have c20 : ((20 : Int) < (k : Int)) = False := eq_false (by omega)
          have c19 : ((k : Int) ≤ 19) = True := eq_true (by omega)
          have e1 := (nums_chk hn26).1
          have e2 := (nums_chk hn26).2
          rw [if_neg (by omega)] at e1
          rw [if_pos hc] at e2
          simp only [go_sem, imp_self, implies_true, reduceCtorEq, false_imp_iff, true_imp_iff, decide_true, decide_false, Int.toNat_natCast, Int.toNat_zero, Int.toNat_one, Int.natCast_nonneg, Int.le_refl, Nat.le_refl, Nat.reduceAdd, Nat.reduceMul, Nat.reduceLeDiff, Nat.reduceLT, Int.reduceLE, Int.reduceLT, Nat.reduceBEq, Nat.reduceEqDiff, Bool.not_true, Bool.not_false, Bool.and_false, Bool.false_and, Bool.or_true, Bool.true_or, Bool.or_false, Bool.false_or, call_funcH, c_drawH, c_loopH, gAll_F, gIf_F, pickB_true, pickB_false, Array.toList_append, List.cons_append, List.nil_append, opTmps, List.contains_cons, List.contains_nil, d1]
          refine acalls_args (args' := [nodesSV (nums k), consSV []]) (.cons (nums_le k) (.cons nil_le .nil)) ?_
          refine chk_c [] low_nil (fun c hc => by cases hc) (nums k) (by rw [nums_len]; omega) (nums_cnt k) (by rw [nums_nl]; omega) _ _ ?_
          simp only [go_sem, imp_self, implies_true, reduceCtorEq, false_imp_iff, true_imp_iff, decide_true, decide_false, Int.toNat_natCast, Int.toNat_zero, Int.toNat_one, Int.natCast_nonneg, Int.le_refl, Nat.le_refl, Nat.reduceAdd, Nat.reduceMul, Nat.reduceLeDiff, Nat.reduceLT, Int.reduceLE, Int.reduceLT, Nat.reduceBEq, Nat.reduceEqDiff, Bool.not_true, Bool.not_false, Bool.and_false, Bool.false_and, Bool.or_true, Bool.true_or, Bool.or_false, Bool.false_or, call_funcH, c_drawH, c_loopH, gAll_F, gIf_F, pickB_true, pickB_false, Array.toList_append, List.cons_append, List.nil_append, opTmps, List.contains_cons, List.contains_nil, e1]
          refine any_c _ _ ?_
          simp only [go_sem, imp_self, implies_true, reduceCtorEq, false_imp_iff, true_imp_iff, decide_true, decide_false, Int.toNat_natCast, Int.toNat_zero, Int.toNat_one, Int.natCast_nonneg, Int.le_refl, Nat.le_refl, Nat.reduceAdd, Nat.reduceMul, Nat.reduceLeDiff, Nat.reduceLT, Int.reduceLE, Int.reduceLT, Nat.reduceBEq, Nat.reduceEqDiff, Bool.not_true, Bool.not_false, Bool.and_false, Bool.false_and, Bool.or_true, Bool.true_or, Bool.or_false, Bool.false_or, call_funcH, c_drawH, c_loopH, gAll_F, gIf_F, pickB_true, pickB_false, Array.toList_append, List.cons_append, List.nil_append, opTmps, List.contains_cons, List.contains_nil]
          refine ⟨app22 hal, ?_⟩
          refine acalls_args (args' := [nodesSV (nums k ++ [anyN]), consSV []]) (.cons (nums_le2 k) (.cons nil_le .nil)) ?_
          refine chk_c [] low_nil (fun c hc => by cases hc) (nums k ++ [anyN]) (by simp [nums_len]; omega) (nums_cnt2 k) (by rw [nlL_append, nums_nl]; simp [nlL, nl, anyN]; omega) _ _ ?_
          simp only [go_sem, imp_self, implies_true, reduceCtorEq, false_imp_iff, true_imp_iff, decide_true, decide_false, Int.toNat_natCast, Int.toNat_zero, Int.toNat_one, Int.natCast_nonneg, Int.le_refl, Nat.le_refl, Nat.reduceAdd, Nat.reduceMul, Nat.reduceLeDiff, Nat.reduceLT, Int.reduceLE, Int.reduceLT, Nat.reduceBEq, Nat.reduceEqDiff, Bool.not_true, Bool.not_false, Bool.and_false, Bool.false_and, Bool.or_true, Bool.true_or, Bool.or_false, Bool.false_or, call_funcH, c_drawH, c_loopH, gAll_F, gIf_F, pickB_true, pickB_false, Array.toList_append, List.cons_append, List.nil_append, opTmps, List.contains_cons, List.contains_nil, e1, e2, c20, c19, b1, b2, b3, b4]
          refine lives_c _ _ ?_
          simp only [go_sem, imp_self, implies_true, reduceCtorEq, false_imp_iff, true_imp_iff, decide_true, decide_false, Int.toNat_natCast, Int.toNat_zero, Int.toNat_one, Int.natCast_nonneg, Int.le_refl, Nat.le_refl, Nat.reduceAdd, Nat.reduceMul, Nat.reduceLeDiff, Nat.reduceLT, Int.reduceLE, Int.reduceLT, Nat.reduceBEq, Nat.reduceEqDiff, Bool.not_true, Bool.not_false, Bool.and_false, Bool.false_and, Bool.or_true, Bool.true_or, Bool.or_false, Bool.false_or, call_funcH, c_drawH, c_loopH, gAll_F, gIf_F, pickB_true, pickB_false, Array.toList_append, List.cons_append, List.nil_append, opTmps, List.contains_cons, List.contains_nil, e1, e2, c20, c19, b1, b2, b3, b4]
          exact ⟨⟨_, rfl⟩, .sc _, h⟩
        · have c20 : ((20 : Int) < (k : Int)) = False := eq_false (by omega)
          have c19 : ((k : Int) ≤ 19) = False := eq_false (by omega)
          have e1 := (nums_chk hn26).1
          have e2 := (nums_chk hn26).2
          rw [if_neg (by omega)] at e1
          rw [if_neg (by omega)] at e2
          simp only [go_sem, imp_self, implies_true, reduceCtorEq, false_imp_iff, true_imp_iff, decide_true, decide_false, Int.toNat_natCast, Int.toNat_zero, Int.toNat_one, Int.natCast_nonneg, Int.le_refl, Nat.le_refl, Nat.reduceAdd, Nat.reduceMul, Nat.reduceLeDiff, Nat.reduceLT, Int.reduceLE, Int.reduceLT, Nat.reduceBEq, Nat.reduceEqDiff, Bool.not_true, Bool.not_false, Bool.and_false, Bool.false_and, Bool.or_true, Bool.true_or, Bool.or_false, Bool.false_or, call_funcH, c_drawH, c_loopH, gAll_F, gIf_F, pickB_true, pickB_false, Array.toList_append, List.cons_append, List.nil_append, opTmps, List.contains_cons, List.contains_nil, d1]
          refine acalls_args (args' := [nodesSV (nums k), consSV []]) (.cons (nums_le k) (.cons nil_le .nil)) ?_
          refine chk_c [] low_nil (fun c hc => by cases hc) (nums k) (by rw [nums_len]; omega) (nums_cnt k) (by rw [nums_nl]; omega) _ _ ?_
          simp only [go_sem, imp_self, implies_true, reduceCtorEq, false_imp_iff, true_imp_iff, decide_true, decide_false, Int.toNat_natCast, Int.toNat_zero, Int.toNat_one, Int.natCast_nonneg, Int.le_refl, Nat.le_refl, Nat.reduceAdd, Nat.reduceMul, Nat.reduceLeDiff, Nat.reduceLT, Int.reduceLE, Int.reduceLT, Nat.reduceBEq, Nat.reduceEqDiff, Bool.not_true, Bool.not_false, Bool.and_false, Bool.false_and, Bool.or_true, Bool.true_or, Bool.or_false, Bool.false_or, call_funcH, c_drawH, c_loopH, gAll_F, gIf_F, pickB_true, pickB_false, Array.toList_append, List.cons_append, List.nil_append, opTmps, List.contains_cons, List.contains_nil, e1]
          refine any_c _ _ ?_
          simp only [go_sem, imp_self, implies_true, reduceCtorEq, false_imp_iff, true_imp_iff, decide_true, decide_false, Int.toNat_natCast, Int.toNat_zero, Int.toNat_one, Int.natCast_nonneg, Int.le_refl, Nat.le_refl, Nat.reduceAdd, Nat.reduceMul, Nat.reduceLeDiff, Nat.reduceLT, Int.reduceLE, Int.reduceLT, Nat.reduceBEq, Nat.reduceEqDiff, Bool.not_true, Bool.not_false, Bool.and_false, Bool.false_and, Bool.or_true, Bool.true_or, Bool.or_false, Bool.false_or, call_funcH, c_drawH, c_loopH, gAll_F, gIf_F, pickB_true, pickB_false, Array.toList_append, List.cons_append, List.nil_append, opTmps, List.contains_cons, List.contains_nil]
          refine ⟨app22 hal, ?_⟩
          refine acalls_args (args' := [nodesSV (nums k ++ [anyN]), consSV []]) (.cons (nums_le2 k) (.cons nil_le .nil)) ?_
          refine chk_c [] low_nil (fun c hc => by cases hc) (nums k ++ [anyN]) (by simp [nums_len]; omega) (nums_cnt2 k) (by rw [nlL_append, nums_nl]; simp [nlL, nl, anyN]; omega) _ _ ?_
          simp only [go_sem, imp_self, implies_true, reduceCtorEq, false_imp_iff, true_imp_iff, decide_true, decide_false, Int.toNat_natCast, Int.toNat_zero, Int.toNat_one, Int.natCast_nonneg, Int.le_refl, Nat.le_refl, Nat.reduceAdd, Nat.reduceMul, Nat.reduceLeDiff, Nat.reduceLT, Int.reduceLE, Int.reduceLT, Nat.reduceBEq, Nat.reduceEqDiff, Bool.not_true, Bool.not_false, Bool.and_false, Bool.false_and, Bool.or_true, Bool.true_or, Bool.or_false, Bool.false_or, call_funcH, c_drawH, c_loopH, gAll_F, gIf_F, pickB_true, pickB_false, Array.toList_append, List.cons_append, List.nil_append, opTmps, List.contains_cons, List.contains_nil, e1, e2, c20, c19, b1, b2, b3, b4]
          refine lives_c _ _ ?_
          simp only [go_sem, imp_self, implies_true, reduceCtorEq, false_imp_iff, true_imp_iff, decide_true, decide_false, Int.toNat_natCast, Int.toNat_zero, Int.toNat_one, Int.natCast_nonneg, Int.le_refl, Nat.le_refl, Nat.reduceAdd, Nat.reduceMul, Nat.reduceLeDiff, Nat.reduceLT, Int.reduceLE, Int.reduceLT, Nat.reduceBEq, Nat.reduceEqDiff, Bool.not_true, Bool.not_false, Bool.and_false, Bool.false_and, Bool.or_true, Bool.true_or, Bool.or_false, Bool.false_or, call_funcH, c_drawH, c_loopH, gAll_F, gIf_F, pickB_true, pickB_false, Array.toList_append, List.cons_append, List.nil_append, opTmps, List.contains_cons, List.contains_nil, e1, e2, c20, c19, b1, b2, b3, b4]
          exact ⟨⟨_, rfl⟩, .sc _, h⟩

end Go.Proofs
