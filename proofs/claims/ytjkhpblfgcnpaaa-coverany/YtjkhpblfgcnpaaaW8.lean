/- sound. -/
import Derived.Test.YtjkhpblfgcnpaaaW7
set_option linter.unusedSimpArgs false
set_option maxRecDepth 4000
namespace Go.Proofs
open Go Go.AL

theorem sound1o_c (c d : Cn) (id : Nat) (K : SV → St → Prop) (st : St) (hi : isObj st id) (ho : objAt st id = (conSV d).cells) (h : K (.sc (.bool (clash c d))) st) : ACalls Try.prog 21 [conSV c, .ptr id 0] K st := by
  refine acalls_go_pure [] Try.func21 rfl Try.results21 Try.ntmps21 ?_
  unfold clash at h
  have hi' : isObj st id = True := eq_true hi
  have ho' : objAt st id = [.sc (.string d.name), .sc (.string d.of_), .sc (.int .i64 d.tag), .sc (.int .i64 d.arity), .sc (.int .i64 d.many)] := ho
  clear ho
  simp only [go_sem, imp_self, implies_true, reduceCtorEq, false_imp_iff, true_imp_iff, decide_true, decide_false, Int.toNat_natCast, Int.toNat_zero, Int.toNat_one, Int.natCast_nonneg, Int.le_refl, Nat.le_refl, Nat.reduceAdd, Nat.reduceMul, Nat.reduceLeDiff, Nat.reduceLT, Int.reduceLE, Int.reduceLT, Nat.reduceBEq, Nat.reduceEqDiff, Bool.not_true, Bool.not_false, Bool.and_false, Bool.false_and, Bool.or_true, Bool.true_or, Bool.or_false, Bool.false_or, call_func, c_draw, c_loop, FinK, hi', ho']
  repeat' (first | exact h | apply And.intro)
  all_goals (intros; simp_all)

/-- What is wrong with a constructor, at its place. -/
def badC (cons : List Cn) (i : Nat) (c : Cn) : Bool :=
  (((((cons.take i).any fun x => clash x c) || c.many != ((ofL cons c.of_).length : Int)) || decide (c.tag < 0) || decide (c.many ≤ c.tag)) || decide (c.arity < 0)) || decide (4 < c.arity)

def soundUpto (cons : List Cn) (n : Nat) : Bool := (List.range n).all fun i => !badC cons i (cons.getD i default)

def pClash (d : Cn) : SV → Bool
  | .agg [.sc (.string a), .sc (.string b), .sc (.int _ n), _, _] => clash ⟨a, b, n, 0, 0⟩ d
  | _ => false

theorem any_clash (d : Cn) (l : List Cn) : (l.map conSV).any (pClash d) = l.any fun x => clash x d := by
  rw [List.any_map]; rfl

theorem soundUpto_succ (cons : List Cn) (k : Nat) : soundUpto cons (k + 1) = (soundUpto cons k && !badC cons k (cons.getD k default)) := by
  unfold soundUpto
  rw [List.range_succ, List.all_append]
  simp

theorem soundUpto_false (cons : List Cn) {k n : Nat} (h : k < n) (hb : badC cons k (cons.getD k default) = true) : soundUpto cons n = false := by
  unfold soundUpto
  rw [List.all_eq_false]
  exact ⟨k, List.mem_range.2 h, by rw [hb]; decide⟩

theorem sound_c (cons : List Cn) (hb : cons.length ≤ 100000) (K : SV → St → Prop) (st : St) (h : K (.sc (.bool (soundUpto cons cons.length))) st) : ACalls Try.prog 11 [consSV cons] K st := by
  refine acalls_go_pure [] Try.func11 rfl Try.results11 Try.ntmps11 ?_
  simp only [go_sem, imp_self, implies_true, reduceCtorEq, false_imp_iff, true_imp_iff, decide_true, decide_false, Int.toNat_natCast, Int.toNat_zero, Int.toNat_one, Int.natCast_nonneg, Int.le_refl, Nat.le_refl, Nat.reduceAdd, Nat.reduceMul, Nat.reduceLeDiff, Nat.reduceLT, Int.reduceLE, Int.reduceLT, Nat.reduceBEq, Nat.reduceEqDiff, Bool.not_true, Bool.not_false, Bool.and_false, Bool.false_and, Bool.or_true, Bool.true_or, Bool.or_false, Bool.false_or, call_func, c_draw, c_loop]
  refine awp_rounds [] (fun m e s => ∃ (k : Nat) (ex : St), k + m = cons.length ∧ soundUpto cons k = true ∧
       e = [consSV cons, .any, .any, .any, .any, .any, .any, consSV cons, .sc (.int .i64 cons.length), .sc (.int .i64 k), .any, .any, .any, .any, .any, .any, .any, .any, .any, .any, .any, .any, .any, .any, .any, .any, .any, .any, .any, .any, .any, .any, .any, .any, .any, .any, .any, .any, .any, .any, .any, .any, .any, .any, .any, .any, .any, .any, .any, .any, .any, .any, .any, .any] ∧ s = st ++ ex) (n := cons.length) ?_
       ⟨0, [], by omega, rfl, rfl, by simp⟩ ?_
  · repeat (first | exact leEnv_nil | refine leEnv_any _ ?_ | refine leEnv_same _ ?_)
  · rintro m e s ⟨k, ex, hk, hs, rfl, rfl⟩
    by_cases hlt : k < cons.length
    · have i1 : (k : Int) < (cons.length : Int) := by omega
      have hw := wrap_succ k (by omega)
      have hne : cons ≠ [] := by rintro rfl; exact absurd hlt (Nat.not_lt_zero _)
      have i2 : (k : Int) ≤ (cons.length : Int) := by omega
      simp only [go_sem, imp_self, implies_true, reduceCtorEq, false_imp_iff, true_imp_iff, decide_true, decide_false, Int.toNat_natCast, Int.toNat_zero, Int.toNat_one, Int.natCast_nonneg, Int.le_refl, Nat.le_refl, Nat.reduceAdd, Nat.reduceMul, Nat.reduceLeDiff, Nat.reduceLT, Int.reduceLE, Int.reduceLT, Nat.reduceBEq, Nat.reduceEqDiff, Bool.not_true, Bool.not_false, Bool.and_false, Bool.false_and, Bool.or_true, Bool.true_or, Bool.or_false, Bool.false_or, call_func, c_draw, c_loop, i1, hw, getD_map' _ hlt]
      refine of_c cons hne hb _ _ _ ?_
      simp only [go_sem, imp_self, implies_true, reduceCtorEq, false_imp_iff, true_imp_iff, decide_true, decide_false, Int.toNat_natCast, Int.toNat_zero, Int.toNat_one, Int.natCast_nonneg, Int.le_refl, Nat.le_refl, Nat.reduceAdd, Nat.reduceMul, Nat.reduceLeDiff, Nat.reduceLT, Int.reduceLE, Int.reduceLT, Nat.reduceBEq, Nat.reduceEqDiff, Bool.not_true, Bool.not_false, Bool.and_false, Bool.false_and, Bool.or_true, Bool.true_or, Bool.or_false, Bool.false_or, call_func, c_draw, c_loop, i2]
      refine ⟨by omega, ?_⟩
      rw [← List.map_take]
      refine contains20_c _ _ (pClash (cons.getD k default)) 21 _ Try.abody21 (fun x hx => ?_) (by simp; omega) _ (fun x hx K h => ?_) _ ?_
      · obtain ⟨c, _, rfl⟩ := List.mem_map.1 hx
        exact cellsOf_con c Try.aagg47 Try.asize47
      · obtain ⟨c, _, rfl⟩ := List.mem_map.1 hx
        exact sound1o_c c (cons.getD k default) _ K _ (by simp only [go_sem]) (by simp only [go_sem]) h
      rw [any_clash]
      have hbad : badC cons k (cons.getD k default) = badC cons k (cons.getD k default) := rfl
      conv at hbad => rhs; unfold badC
      have hF := soundUpto_false cons hlt
      have hT : badC cons k (cons.getD k default) = false → soundUpto cons (k + 1) = true := fun h => by rw [soundUpto_succ, hs, h]; rfl
      generalize cons.getD k default = d at *
      generalize (List.take k cons).any (fun x => clash x d) = a1 at *
      generalize (((ofL cons d.of_).length : Nat) : Int) = n1 at *
      simp only [go_sem, imp_self, implies_true, reduceCtorEq, false_imp_iff, true_imp_iff, decide_true, decide_false, Int.toNat_natCast, Int.toNat_zero, Int.toNat_one, Int.natCast_nonneg, Int.le_refl, Nat.le_refl, Nat.reduceAdd, Nat.reduceMul, Nat.reduceLeDiff, Nat.reduceLT, Int.reduceLE, Int.reduceLT, Nat.reduceBEq, Nat.reduceEqDiff, Bool.not_true, Bool.not_false, Bool.and_false, Bool.false_and, Bool.or_true, Bool.true_or, Bool.or_false, Bool.false_or, call_func, c_draw, c_loop, FinK]
      have nb : ∀ b : Bool, b = false → (!b) = true := by intro b h; simp [h]
      refine ⟨nb _, nb _, nb _, nb _, nb _, fun hx => ?_, fun hx => ?_⟩
      · rw [hF (hbad.trans hx)] at h
        exact h
      · refine ⟨m - 1, _, by omega, ?_, k + 1, _, by omega, hT (hbad.trans hx), rfl, rfl⟩
        repeat (first | exact leEnv_nil | refine leEnv_any _ ?_ | refine leEnv_same _ ?_)
    · obtain rfl : k = cons.length := by omega
      have d1 : ((cons.length : Int) < (cons.length : Int)) = False := eq_false (by omega)
      simp only [go_sem, imp_self, implies_true, reduceCtorEq, false_imp_iff, true_imp_iff, decide_true, decide_false, Int.toNat_natCast, Int.toNat_zero, Int.toNat_one, Int.natCast_nonneg, Int.le_refl, Nat.le_refl, Nat.reduceAdd, Nat.reduceMul, Nat.reduceLeDiff, Nat.reduceLT, Int.reduceLE, Int.reduceLT, Nat.reduceBEq, Nat.reduceEqDiff, Bool.not_true, Bool.not_false, Bool.and_false, Bool.false_and, Bool.or_true, Bool.true_or, Bool.or_false, Bool.false_or, call_func, c_draw, c_loop, d1, FinK]
      rw [hs] at h
      exact h

end Go.Proofs
