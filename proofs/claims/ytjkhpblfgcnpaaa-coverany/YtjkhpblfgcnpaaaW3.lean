/- find, others and their like. -/
import Derived.Test.YtjkhpblfgcnpaaaW2
set_option linter.unusedSimpArgs false
set_option maxRecDepth 4000
namespace Go.Proofs
open Go Go.AL

def pName (name : ByteArray) : SV → Bool
  | .agg (.sc (.string s) :: _) => s.toList == name.toList
  | _ => false

theorem pName_con (name : ByteArray) (c : Cn) : pName name (conSV c) = (c.name.toList == name.toList) := rfl

def findC (cons : List Cn) (name : ByteArray) : Option Cn := cons.find? fun c => c.name.toList == name.toList

theorem find1_c (c : Cn) (name : ByteArray) (K : SV → St → Prop) (st : St) (h : K (.sc (.bool (c.name.toList == name.toList))) st) : ACalls Try.prog 41 [conSV c, .ref [.sc (.string name)]] K st := by
  refine acalls_go_pure [] Try.func41 rfl Try.results41 Try.ntmps41 ?_
  simp only [go_sem, imp_self, implies_true, reduceCtorEq, false_imp_iff, true_imp_iff, decide_true, decide_false, Int.toNat_natCast, Int.toNat_zero, Int.toNat_one, Int.natCast_nonneg, Int.le_refl, Nat.le_refl, Nat.reduceAdd, Nat.reduceMul, Nat.reduceLeDiff, Nat.reduceLT, Int.reduceLE, Int.reduceLT, Nat.reduceBEq, Nat.reduceEqDiff, Bool.not_true, Bool.not_false, Bool.and_false, Bool.false_and, Bool.or_true, Bool.true_or, Bool.or_false, Bool.false_or, call_func, c_draw, c_loop, FinK]
  exact h

theorem idxOf_map (q : Cn → Bool) (p : SV → Bool) (hpq : ∀ c, p (conSV c) = q c) (cons : List Cn) : idxOf p (cons.map conSV) = match cons.findIdx? q with | some i => (i : Int) | none => -1 := by
  unfold idxOf
  rw [List.findIdx?_map]
  have : (p ∘ conSV) = q := funext hpq
  rw [this]
  cases List.findIdx? q cons <;> rfl

theorem find_c (cons : List Cn) (name : ByteArray) (hb : cons.length ≤ 1000000) (K : SV → St → Prop) (st : St) (h : K (.tuple [conSV ((findC cons name).getD default), .sc (.bool (findC cons name).isSome)]) st) :
    ACalls Try.prog 23 [consSV cons, .sc (.string name)] K st := by
  refine acalls_go_pure [] Try.func23 rfl Try.results23 Try.ntmps23 ?_
  simp only [go_sem, imp_self, implies_true, reduceCtorEq, false_imp_iff, true_imp_iff, decide_true, decide_false, Int.toNat_natCast, Int.toNat_zero, Int.toNat_one, Int.natCast_nonneg, Int.le_refl, Nat.le_refl, Nat.reduceAdd, Nat.reduceMul, Nat.reduceLeDiff, Nat.reduceLT, Int.reduceLE, Int.reduceLT, Nat.reduceBEq, Nat.reduceEqDiff, Bool.not_true, Bool.not_false, Bool.and_false, Bool.false_and, Bool.or_true, Bool.true_or, Bool.or_false, Bool.false_or, call_func, c_draw, c_loop]
  refine index40_c _ _ (pName name) 41 _ Try.abody41 (fun x hx => ?_) (by simpa using hb) _ (fun x hx K h => ?_) _ ?_
  · obtain ⟨c, _, rfl⟩ := List.mem_map.1 hx
    exact cellsOf_con c Try.aagg47 Try.asize47
  · obtain ⟨c, _, rfl⟩ := List.mem_map.1 hx
    exact find1_c c name K _ h
  · rw [idxOf_map (fun c => c.name.toList == name.toList) _ (fun c => rfl)]
    cases hf : cons.findIdx? (fun c => c.name.toList == name.toList) with
    | none =>
      have e : findC cons name = none := by
        rw [List.findIdx?_eq_none_iff] at hf
        exact List.find?_eq_none.2 fun x hx => by rw [hf x hx]; decide
      rw [e] at h
      have d1 : ((-1 : Int) < 0) = True := eq_true (by omega)
      simp only [go_sem, imp_self, implies_true, reduceCtorEq, false_imp_iff, true_imp_iff, decide_true, decide_false, Int.toNat_natCast, Int.toNat_zero, Int.toNat_one, Int.natCast_nonneg, Int.le_refl, Nat.le_refl, Nat.reduceAdd, Nat.reduceMul, Nat.reduceLeDiff, Nat.reduceLT, Int.reduceLE, Int.reduceLT, Nat.reduceBEq, Nat.reduceEqDiff, Bool.not_true, Bool.not_false, Bool.and_false, Bool.false_and, Bool.or_true, Bool.true_or, Bool.or_false, Bool.false_or, call_func, c_draw, c_loop, d1, FinK]
      exact h
    | some i =>
      rw [List.findIdx?_eq_some_iff_getElem] at hf
      obtain ⟨hi, hp, hno⟩ := hf
      have e : findC cons name = some cons[i] := by
        unfold findC
        rw [List.find?_eq_some_iff_getElem]
        exact ⟨hp, i, hi, rfl, fun j hj => by simpa using hno j hj⟩
      rw [e] at h
      have d1 : ((i : Int) < 0) = False := eq_false (by omega)
      have d2 : (i : Int) < (cons.length : Int) := by omega
      have eg : cons.getD i default = cons[i] := by simp [List.getD_eq_getElem?_getD, hi]
      simp only [go_sem, imp_self, implies_true, reduceCtorEq, false_imp_iff, true_imp_iff, decide_true, decide_false, Int.toNat_natCast, Int.toNat_zero, Int.toNat_one, Int.natCast_nonneg, Int.le_refl, Nat.le_refl, Nat.reduceAdd, Nat.reduceMul, Nat.reduceLeDiff, Nat.reduceLT, Int.reduceLE, Int.reduceLT, Nat.reduceBEq, Nat.reduceEqDiff, Bool.not_true, Bool.not_false, Bool.and_false, Bool.false_and, Bool.or_true, Bool.true_or, Bool.or_false, Bool.false_or, call_func, c_draw, c_loop, d1, d2, FinK, getD_map' _ hi, eg]
      exact h

def othersL (rows : List (List Nd)) : List (List Nd) := (rows.filter fun r => looseB (r.getD 0 default)).map fun r => r.drop 1

theorem others_snoc (rows : List (List Nd)) {k : Nat} (h : k < rows.length) (b : Bool) (hb : looseB ((rows.getD k default).getD 0 default) = b) :
    (othersL (rows.take (k + 1))).map nodesSV = if b then (othersL (rows.take k)).map nodesSV ++ [nodesSV ((rows.getD k default).drop 1)] else (othersL (rows.take k)).map nodesSV := by
  rw [take_snoc' rows h]
  unfold othersL
  rw [List.filter_append, List.map_append, List.map_append]
  generalize rows.getD k default = r at hb
  cases b <;> simp only [List.filter_cons, hb, if_true, Bool.false_eq_true, if_false, List.filter_nil, List.map_cons, List.map_nil, List.append_nil]

theorem othersL_len (rows : List (List Nd)) : (othersL rows).length ≤ rows.length := by
  unfold othersL; rw [List.length_map]; exact List.length_filter_le _ _

theorem app37 {n : Nat} (h : n ≤ 1000000) : AppOk Try.prog 37 37 1 n := appOk_of Try.aelem37 Try.aelem37 Try.asize22 Try.azero22 rfl Try.abytes22 (by omega) h

theorem others_c (rows : List (List Nd)) (hne : ∀ r ∈ rows, r ≠ []) (hb : rows.length ≤ 100000) (K : SV → St → Prop) (st : St) (h : K (rowsSV (othersL rows)) st) : ACalls Try.prog 25 [rowsSV rows] K st := by
  refine acalls_go_pure [] Try.func25 rfl Try.results25 Try.ntmps25 ?_
  simp only [go_sem, imp_self, implies_true, reduceCtorEq, false_imp_iff, true_imp_iff, decide_true, decide_false, Int.toNat_natCast, Int.toNat_zero, Int.toNat_one, Int.natCast_nonneg, Int.le_refl, Nat.le_refl, Nat.reduceAdd, Nat.reduceMul, Nat.reduceLeDiff, Nat.reduceLT, Int.reduceLE, Int.reduceLT, Nat.reduceBEq, Nat.reduceEqDiff, Bool.not_true, Bool.not_false, Bool.and_false, Bool.false_and, Bool.or_true, Bool.true_or, Bool.or_false, Bool.false_or, call_func, c_draw, c_loop]
  refine awp_own 3 1 0 rfl ?_
  simp only [go_sem]
  refine awp_rounds [] (fun m e s => ∃ k ver, k + m = rows.length ∧ e = [.slice .imm 1 (rows.map nodesSV), .any, .any, .slice (.own st.length ver) 1 ((othersL (rows.take k)).map nodesSV), .any, .any, .slice .imm 1 (rows.map nodesSV),
     .sc (.int .i64 rows.length), .sc (.int .i64 k), .any, .any, .any, .any, .any, .any, .any, .any, .any, .any, .any, .any, .any, .any] ∧ s = st ++ [.tok ver]) (n := rows.length) ?_ ⟨0, 0, by omega, rfl, rfl⟩ ?_
  · repeat (first | exact leEnv_nil | refine leEnv_any _ ?_ | refine leEnv_same _ ?_)
  · rintro m e s ⟨k, ver, hk, rfl, rfl⟩
    by_cases hlt : k < rows.length
    · have hr : (rows.getD k default) ∈ rows := by simp [List.getD_eq_getElem?_getD, hlt]
      have hne' := List.length_pos_iff.2 (hne _ hr)
      have i1 : (k : Int) < (rows.length : Int) := by omega
      have d0 : (0 : Int) < ((rows.getD k default).length : Int) := by omega
      have d3 : (1 : Int) ≤ ((rows.getD k default).length : Int) := by omega
      have hw := wrap_succ k (by omega)
      have hlen : (othersL (rows.take k)).length + 1 ≤ 1000000 := by
        have := othersL_len (rows.take k)
        simp at this
        omega
      simp only [go_sem, imp_self, implies_true, reduceCtorEq, false_imp_iff, true_imp_iff, decide_true, decide_false, Int.toNat_natCast, Int.toNat_zero, Int.toNat_one, Int.natCast_nonneg, Int.le_refl, Nat.le_refl, Nat.reduceAdd, Nat.reduceMul, Nat.reduceLeDiff, Nat.reduceLT, Int.reduceLE, Int.reduceLT, Nat.reduceBEq, Nat.reduceEqDiff, Bool.not_true, Bool.not_false, Bool.and_false, Bool.false_and, Bool.or_true, Bool.true_or, Bool.or_false, Bool.false_or, call_func, c_draw, c_loop, i1, d0, hw, getD_map' _ hlt, getD_map' _ hne']
      refine loose_c _ _ _ ?_
      cases hL : looseB ((rows.getD k default).getD 0 default)
      · have hc := others_snoc rows hlt _ hL
        simp only [Bool.false_eq_true, if_false] at hc
        simp only [go_sem, imp_self, implies_true, reduceCtorEq, false_imp_iff, true_imp_iff, decide_true, decide_false, Int.toNat_natCast, Int.toNat_zero, Int.toNat_one, Int.natCast_nonneg, Int.le_refl, Nat.le_refl, Nat.reduceAdd, Nat.reduceMul, Nat.reduceLeDiff, Nat.reduceLT, Int.reduceLE, Int.reduceLT, Nat.reduceBEq, Nat.reduceEqDiff, Bool.not_true, Bool.not_false, Bool.and_false, Bool.false_and, Bool.or_true, Bool.true_or, Bool.or_false, Bool.false_or, call_func, c_draw, c_loop, ← hc]
        refine ⟨m - 1, _, by omega, ?_, k + 1, ver, by omega, rfl, rfl⟩
        repeat (first | exact leEnv_nil | refine leEnv_any _ ?_ | refine leEnv_same _ ?_)
      · have hc := others_snoc rows hlt _ hL
        simp only [if_true, nodesSV, List.map_drop] at hc
        simp only [go_sem, imp_self, implies_true, reduceCtorEq, false_imp_iff, true_imp_iff, decide_true, decide_false, Int.toNat_natCast, Int.toNat_zero, Int.toNat_one, Int.natCast_nonneg, Int.le_refl, Nat.le_refl, Nat.reduceAdd, Nat.reduceMul, Nat.reduceLeDiff, Nat.reduceLT, Int.reduceLE, Int.reduceLT, Nat.reduceBEq, Nat.reduceEqDiff, Bool.not_true, Bool.not_false, Bool.and_false, Bool.false_and, Bool.or_true, Bool.true_or, Bool.or_false, Bool.false_or, call_func, c_draw, c_loop, d3, List.take_length]
        simp only [← hc]
        refine ⟨app37 hlen, m - 1, _, by omega, ?_, k + 1, ver + 1, by omega, rfl, rfl⟩
        repeat (first | exact leEnv_nil | refine leEnv_any _ ?_ | refine leEnv_same _ ?_)
    · have d1 : ((k : Int) < (rows.length : Int)) = False := eq_false (by omega)
      obtain rfl : k = rows.length := by omega
      simp only [go_sem, imp_self, implies_true, reduceCtorEq, false_imp_iff, true_imp_iff, decide_true, decide_false, Int.toNat_natCast, Int.toNat_zero, Int.toNat_one, Int.natCast_nonneg, Int.le_refl, Nat.le_refl, Nat.reduceAdd, Nat.reduceMul, Nat.reduceLeDiff, Nat.reduceLT, Int.reduceLE, Int.reduceLT, Nat.reduceBEq, Nat.reduceEqDiff, Bool.not_true, Bool.not_false, Bool.and_false, Bool.false_and, Bool.or_true, Bool.true_or, Bool.or_false, Bool.false_or, call_func, c_draw, c_loop, d1, FinK, List.take_length]
      exact ⟨ids_rows _ _, h⟩

end Go.Proofs
