/- The rules (printed by gen_w18.py). -/
import Derived.Test.YtammbegfobhflaaN1
set_option linter.all false
set_option linter.unusedSimpArgs false
set_option linter.unusedVariables false
set_option maxRecDepth 8000
namespace Go.AL
def belowSV (a b : Int) (f : FuncId) : SV := .func (.func 93) [] [.ref [.func (.func f) [] []], .ref [i64 a], .ref [i64 b]]
def fixedSV (a b : Int) : SV := .func (.func 94) [] [.ref [i64 a], .ref [i64 b]]
def litMap (l : List (Int × SV)) : List (Value × SV) := l.map fun p => (.int .i64 p.1, p.2)
def rulesL : List (Int × SV) := [(1, belowSV 0 1 81), (2, belowSV 0 1 82), (3, belowSV 0 1 78), (4, belowSV 0 1 83), (5, SV.func (.func 84) [] []), (6, belowSV 0 1 79), (7, belowSV 1 0 78), (8, belowSV 1 0 79), (9, fixedSV 1 0), (10, SV.func (.func 86) [] []), (11, SV.func (.func 87) [] []), (12, belowSV 1 1 88), (13, fixedSV 2 1), (14, fixedSV 2 0), (15, fixedSV 1 0), (17, fixedSV 1 0), (18, fixedSV 1 0), (19, belowSV 2 1 89), (20, fixedSV 2 1), (23, fixedSV 1 0), (24, fixedSV 1 1), (25, fixedSV 1 1), (31, fixedSV 1 1), (32, fixedSV 1 1), (33, fixedSV 2 1)]
def lookS (l : List (Int × SV)) (z : SV) (k : Int) : SV := ((l.find? fun p => p.1 == k).map (·.2)).getD z
theorem litMap_int (l : List (Int × SV)) : IntKeys (litMap l) := by
  intro q hq
  obtain ⟨p, _, rfl⟩ := List.mem_map.1 hq
  exact ⟨p.1, rfl⟩
theorem ids_caps {n : Nat} {fn : Fn} (k : List SV) (h : ∀ x ∈ k, Ids n x) : Ids n (.func fn [] k) :=
  .func _ _ _ (fun i hi => by cases hi) fun i hi => by
    rw [List.getD_eq_getElem?_getD, List.getElem?_eq_getElem hi]
    exact h _ (List.getElem_mem hi)
theorem ids_ref1 {n : Nat} {x : SV} (h : Ids n x) : Ids n (.ref [x]) := .ref _ fun i hi => by
  obtain rfl : i = 0 := by simpa using hi
  exact h
theorem getOr_lit (l : List (Int × SV)) (z : SV) (k : Int) : getOr (litMap l) z k = (lookS l z k, (l.any fun p => p.1 == k)) := by
  unfold getOr lookS keyIdx
  induction l with
  | nil => rfl
  | cons p r ih =>
    unfold litMap at ih ⊢
    rw [List.map_cons, List.findIdx?_cons]
    simp only [keyEq_int]
    by_cases e : p.1 = k
    · simp [e]
    · have e' : ¬ k = p.1 := fun h => e h.symm
      have e2 : (p.1 == k) = false := beq_eq_false_iff_ne.2 e
      simp only [e', decide_false, Bool.false_eq_true, if_false, List.find?_cons, e2, List.any_cons, Bool.false_or]
      rw [← ih]
      generalize List.findIdx? _ _ = o
      cases o <;> rfl
end Go.AL
namespace Go.Proofs
open Go Go.AL
theorem below_c (a b : Int) (f : FuncId) (K : SV → St → Prop) (st : St) (h : K (belowSV a b f) st) : ACalls Try.prog 80 [i64 a, i64 b, .func (.func f) [] []] K st := by
  refine acalls_go_pure [] Try.func80 rfl Try.results80 Try.ntmps80 ?_
  simp only [go_sem]
  exact ⟨⟨[], by simp⟩, ids_caps _ (fun x hx => by
    simp only [List.mem_cons, List.not_mem_nil, or_false] at hx
    rcases hx with rfl | rfl | rfl
    · exact ids_ref1 (ids_caps [] fun x hx => (by cases hx))
    · exact ids_ref1 (.sc _)
    · exact ids_ref1 (.sc _)), h⟩
theorem fixed_c (a b : Int) (K : SV → St → Prop) (st : St) (h : K (fixedSV a b) st) : ACalls Try.prog 85 [i64 a, i64 b] K st := by
  refine acalls_go_pure [] Try.func85 rfl Try.results85 Try.ntmps85 ?_
  simp only [go_sem]
  exact ⟨⟨[], by simp⟩, ids_caps _ (fun x hx => by
    simp only [List.mem_cons, List.not_mem_nil, or_false] at hx
    rcases hx with rfl | rfl
    · exact ids_ref1 (.sc _)
    · exact ids_ref1 (.sc _)), h⟩
set_option maxHeartbeats 8000000 in
theorem rules_c (K : SV → St → Prop) (st : St) (h : K (.mp st.length) (st ++ [.map (litMap rulesL)])) : ACalls Try.prog 65 [] K st := by
  refine acalls_go (M := []) Try.func65 rfl Try.results65 Try.ntmps65 ?_
  simp only [go_sem]
  refine below_c 0 1 81 _ _ ?_
  simp (maxDischargeDepth := 60) only [go_sem, put_last Try.amap132, intKeys_nil', intKeys_put', belowSV, fixedSV]
  refine below_c 0 1 82 _ _ ?_
  simp (maxDischargeDepth := 60) only [go_sem, put_last Try.amap132, intKeys_nil', intKeys_put', belowSV, fixedSV]
  refine below_c 0 1 78 _ _ ?_
  simp (maxDischargeDepth := 60) only [go_sem, put_last Try.amap132, intKeys_nil', intKeys_put', belowSV, fixedSV]
  refine below_c 0 1 83 _ _ ?_
  simp (maxDischargeDepth := 60) only [go_sem, put_last Try.amap132, intKeys_nil', intKeys_put', belowSV, fixedSV]
  refine below_c 0 1 79 _ _ ?_
  simp (maxDischargeDepth := 60) only [go_sem, put_last Try.amap132, intKeys_nil', intKeys_put', belowSV, fixedSV]
  refine below_c 1 0 78 _ _ ?_
  simp (maxDischargeDepth := 60) only [go_sem, put_last Try.amap132, intKeys_nil', intKeys_put', belowSV, fixedSV]
  refine below_c 1 0 79 _ _ ?_
  simp (maxDischargeDepth := 60) only [go_sem, put_last Try.amap132, intKeys_nil', intKeys_put', belowSV, fixedSV]
  refine fixed_c 1 0 _ _ ?_
  simp (maxDischargeDepth := 60) only [go_sem, put_last Try.amap132, intKeys_nil', intKeys_put', belowSV, fixedSV]
  refine below_c 1 1 88 _ _ ?_
  simp (maxDischargeDepth := 60) only [go_sem, put_last Try.amap132, intKeys_nil', intKeys_put', belowSV, fixedSV]
  refine fixed_c 2 1 _ _ ?_
  simp (maxDischargeDepth := 60) only [go_sem, put_last Try.amap132, intKeys_nil', intKeys_put', belowSV, fixedSV]
  refine fixed_c 2 0 _ _ ?_
  simp (maxDischargeDepth := 60) only [go_sem, put_last Try.amap132, intKeys_nil', intKeys_put', belowSV, fixedSV]
  refine fixed_c 1 0 _ _ ?_
  simp (maxDischargeDepth := 60) only [go_sem, put_last Try.amap132, intKeys_nil', intKeys_put', belowSV, fixedSV]
  refine fixed_c 1 0 _ _ ?_
  simp (maxDischargeDepth := 60) only [go_sem, put_last Try.amap132, intKeys_nil', intKeys_put', belowSV, fixedSV]
  refine fixed_c 1 0 _ _ ?_
  simp (maxDischargeDepth := 60) only [go_sem, put_last Try.amap132, intKeys_nil', intKeys_put', belowSV, fixedSV]
  refine below_c 2 1 89 _ _ ?_
  simp (maxDischargeDepth := 60) only [go_sem, put_last Try.amap132, intKeys_nil', intKeys_put', belowSV, fixedSV]
  refine fixed_c 2 1 _ _ ?_
  simp (maxDischargeDepth := 60) only [go_sem, put_last Try.amap132, intKeys_nil', intKeys_put', belowSV, fixedSV]
  refine fixed_c 1 0 _ _ ?_
  simp (maxDischargeDepth := 60) only [go_sem, put_last Try.amap132, intKeys_nil', intKeys_put', belowSV, fixedSV]
  refine fixed_c 1 1 _ _ ?_
  simp (maxDischargeDepth := 60) only [go_sem, put_last Try.amap132, intKeys_nil', intKeys_put', belowSV, fixedSV]
  refine fixed_c 1 1 _ _ ?_
  simp (maxDischargeDepth := 60) only [go_sem, put_last Try.amap132, intKeys_nil', intKeys_put', belowSV, fixedSV]
  refine fixed_c 1 1 _ _ ?_
  simp (maxDischargeDepth := 60) only [go_sem, put_last Try.amap132, intKeys_nil', intKeys_put', belowSV, fixedSV]
  refine fixed_c 1 1 _ _ ?_
  simp (maxDischargeDepth := 60) only [go_sem, put_last Try.amap132, intKeys_nil', intKeys_put', belowSV, fixedSV]
  refine fixed_c 2 1 _ _ ?_
  simp (maxDischargeDepth := 60) only [go_sem, put_last Try.amap132, intKeys_nil', intKeys_put', belowSV, fixedSV]
  exact h
/-! What the rules tell. W: a walker: [funs, ints, texts, lets, n, kept, locals, stack, code]. -/
def wkCells (c : Cd) (m1 m2 m3 : AL.Mode) (z1 z2 z3 : Nat) (n : Nat) (f : Bd) : List SV := cdCells m1 m2 m3 z1 z2 z3 c ++ [i64 n, i64 f.kept, i64 f.locals, i64 f.stack, insSV f.code]
section
variable {c : Cd} {m1 m2 m3 : AL.Mode} {z1 z2 z3 : Nat} {n : Nat} {f : Bd} {id : Nat} {st : St} {K : SV → St → Prop}
theorem fin3 {st : St} {K : SV → St → Prop} {a : Bool} {b d : Int} (h : K (.tuple [.sc (.bool a), i64 b, i64 d]) st) : FinK st K (.tuple [.sc (.bool a), i64 b, i64 d]) st := by
  refine ⟨⟨[], by simp⟩, ?_, h⟩
  refine .tuple _ fun i hi => ?_
  match i, hi with
  | 0, _ => exact .sc _
  | 1, _ => exact .sc _
  | 2, _ => exact .sc _
theorem fix_c (a b : Int) (i : In) (hx : SV) (h : K (.tuple [.sc (.bool true), i64 a, i64 b]) st) : ACalls Try.prog 94 [hx, inSV i, .ref [i64 a], .ref [i64 b]] K st := by
  refine acalls_go_pure [] Try.func94 rfl Try.results94 Try.ntmps94 ?_
  simp only [go_sem, inSV, inCells]
  refine awp_drawW [] [(0, []), (0, []), (0, []), (0, []), (0, [])] Try.mixed rfl ?_
  simp only [go_sem, drawW_n, drawW_0, drawW_1, drawW_2, drawW_3, pend_n, pend_c, headD_c, isStore_s]
  exact fin3 h
/-- A function of a walker that is asked. -/
def AskC (id : Nat) (st : St) (g : FuncId) (x : Int) : Prop := ∀ K : SV → St → Prop, K (i64 x) st → ACalls Try.prog g [.ptr id 0] K st
theorem bel_c {g : FuncId} {x : Int} (hb : aBody Try.prog g = true) (hg : AskC id st g x) (a b : Int) (i : In) (h : K (.tuple [.sc (.bool (decide (i.a < x))), i64 a, i64 b]) st) : ACalls Try.prog 93 [.ptr id 0, inSV i, .ref [.func (.func g) [] []], .ref [i64 a], .ref [i64 b]] K st := by
  refine acalls_go_pure [] Try.func93 rfl Try.results93 Try.ntmps93 ?_
  simp only [go_sem, inSV, inCells]
  refine awp_draw [] Try.mixed rfl ?_
  simp only [go_sem, hb]
  rw [dk_eff]
  refine ⟨i64 x, ?_, ?_⟩
  · simp only [go_sem, hb]
    refine hg _ ?_
    exact ⟨⟨[], by simp⟩, .sc _, .inl rfl⟩
  simp only [go_sem]
  exact fin3 h
theorem ask_end {x : Int} (h : K (i64 x) st) : FinK st K (i64 x) st := ⟨⟨[], by simp⟩, .sc _, h⟩
theorem ask_four : AskC id st 88 4 := fun K h => by
  refine acalls_go_pure [] Try.func88 rfl Try.results88 Try.ntmps88 ?_
  simp only [go_sem]
  exact ask_end h
theorem ask_seven : AskC id st 89 7 := fun K h => by
  refine acalls_go_pure [] Try.func89 rfl Try.results89 Try.ntmps89 ?_
  simp only [go_sem]
  exact ask_end h
theorem make_c (i : In) (h : K (.tuple [.sc (.bool (decide (i.a ≤ 199) && decide (1 ≤ i.b) && decide (i.b ≤ 4))), i64 i.b, i64 1]) st) : ACalls Try.prog 86 [.ptr id 0, inSV i] K st := by
  refine acalls_go_pure [] Try.func86 rfl Try.results86 Try.ntmps86 ?_
  simp only [go_sem, inSV, inCells]
  refine awp_draw [] Try.mixed rfl ?_
  simp only [go_sem]
  exact fin3 h
variable (hw : st[id]? = some (.cells (wkCells c m1 m2 m3 z1 z2 z3 n f)))
include hw
theorem ask_locals : AskC id st 78 f.locals := fun K h => by
  have w := cells_facts hw
  refine acalls_go_pure [] Try.func78 rfl Try.results78 Try.ntmps78 ?_
  simp only [go_sem, w.1, w.2.1, w.2.2, wkCells, cdCells]
  exact ask_end h
theorem ask_lets : AskC id st 79 c.lets := fun K h => by
  have w := cells_facts hw
  refine acalls_go_pure [] Try.func79 rfl Try.results79 Try.ntmps79 ?_
  simp only [go_sem, w.1, w.2.1, w.2.2, wkCells, cdCells]
  exact ask_end h
theorem ask_ints : AskC id st 81 c.ints.length := fun K h => by
  have w := cells_facts hw
  refine acalls_go_pure [] Try.func81 rfl Try.results81 Try.ntmps81 ?_
  simp only [go_sem, w.1, w.2.1, w.2.2, wkCells, cdCells, List.length_map]
  exact ask_end h
theorem ask_texts : AskC id st 82 c.texts.length := fun K h => by
  have w := cells_facts hw
  refine acalls_go_pure [] Try.func82 rfl Try.results82 Try.ntmps82 ?_
  simp only [go_sem, w.1, w.2.1, w.2.2, wkCells, cdCells, List.length_map]
  exact ask_end h
theorem ask_kept : AskC id st 83 f.kept := fun K h => by
  have w := cells_facts hw
  refine acalls_go_pure [] Try.func83 rfl Try.results83 Try.ntmps83 ?_
  simp only [go_sem, w.1, w.2.1, w.2.2, wkCells, cdCells]
  exact ask_end h
theorem self_c (i : In) (h : K (.tuple [.sc (.bool (decide (0 < n))), i64 0, i64 1]) st) : ACalls Try.prog 84 [.ptr id 0, inSV i] K st := by
  have e : decide (0 < n) = decide ((0 : Int) < (n : Int)) := by simp
  rw [e] at h
  have w := cells_facts hw
  refine acalls_go_pure [] Try.func84 rfl Try.results84 Try.ntmps84 ?_
  simp only [go_sem, w.1, w.2.1, w.2.2, wkCells, cdCells, inSV, inCells]
  exact fin3 h
theorem fun_c (hz : c.funs ≠ [] → z1 = 4) (i : In) (hl : c.funs.length ≤ 1000) (h : K (.tuple [.sc (.bool (decide (0 < i.a) && decide (i.a < c.funs.length) && (c.funs.getD i.a.toNat default).kept == i.b)), i64 i.b, i64 1]) st) : ACalls Try.prog 87 [.ptr id 0, inSV i] K st := by
  have w := cells_facts hw
  by_cases h1 : 0 < i.a
  · by_cases h2 : i.a < c.funs.length
    · have h0 : 0 ≤ i.a := by omega
      have hlt : i.a.toNat < c.funs.length := by omega
      have hg : (c.funs.map bdSV).getD i.a.toNat .any = bdSV (c.funs.getD i.a.toNat default) := getD_map' _ hlt
      obtain rfl := hz (by intro e; rw [e] at hlt; cases hlt)
      simp only [h1, h2, decide_true, Bool.true_and] at h
      refine acalls_go_pure [] Try.func87 rfl Try.results87 Try.ntmps87 ?_
      simp only [go_sem, inSV, inCells]
      refine awp_draw [] Try.mixed rfl ?_
      simp only [go_sem, w.1, w.2.1, w.2.2, wkCells, cdCells, h1, h2, h0, hg, bdSV, List.length_map]
      exact fin3 h
    · simp only [h1, h2, decide_true, decide_false, Bool.true_and, Bool.false_and, Bool.and_false] at h
      refine acalls_go_pure [] Try.func87 rfl Try.results87 Try.ntmps87 ?_
      simp only [go_sem, inSV, inCells]
      refine awp_draw [] Try.mixed rfl ?_
      simp only [go_sem, w.1, w.2.1, w.2.2, wkCells, cdCells, h1, h2, List.length_map]
      exact fin3 h
  · simp only [h1, decide_false, Bool.false_and] at h
    refine acalls_go_pure [] Try.func87 rfl Try.results87 Try.ntmps87 ?_
    simp only [go_sem, inSV, inCells]
    refine awp_draw [] Try.mixed rfl ?_
    simp only [go_sem, w.1, w.2.1, w.2.2, wkCells, cdCells, h1, List.length_map]
    exact fin3 h
end
end Go.Proofs
set_option linter.unusedSimpArgs false
set_option linter.unusedVariables false
set_option maxRecDepth 8000
namespace Go.Proofs
open Go Go.AL
set_option maxHeartbeats 4000000 in
theorem rule_told {c : Cd} {m1 m2 m3 : AL.Mode} {z1 z2 z3 : Nat} {n : Nat} {f : Bd} {id : Nat} {st : St} (hw : st[id]? = some (.cells (wkCells c m1 m2 m3 z1 z2 z3 n f))) (hz : c.funs ≠ [] → z1 = 4) (hl : c.funs.length ≤ 1000) (hn : c.funs.getD n default = f) (i : In) :
    (lookS rulesL (.sc .nilFunc) i.op = .sc .nilFunc ∧ effF c n i = (true, 0, 0)) ∨ ∃ g caps, lookS rulesL (.sc .nilFunc) i.op = .func (.func g) [] caps ∧ aBody Try.prog g = true ∧
      ∀ K : SV → St → Prop, K (.tuple [.sc (.bool (effF c n i).1), i64 (effF c n i).2.1, i64 (effF c n i).2.2]) st → ACalls Try.prog g (.ptr id 0 :: inSV i :: caps) K st := by
  by_cases e1 : i.op = 1
  · refine .inr ⟨93, [.ref [.func (.func 81) [] []], .ref [i64 0], .ref [i64 1]], by rw [e1]; rfl, by kernel_rfl, fun K h => ?_⟩
    unfold effF at h
    simp only [e1, hn, Int.reduceEq, if_false, if_true] at h
    exact bel_c (by kernel_rfl) (ask_ints hw) 0 1 i h
  by_cases e2 : i.op = 2
  · refine .inr ⟨93, [.ref [.func (.func 82) [] []], .ref [i64 0], .ref [i64 1]], by rw [e2]; rfl, by kernel_rfl, fun K h => ?_⟩
    unfold effF at h
    simp only [e2, hn, Int.reduceEq, if_false, if_true] at h
    exact bel_c (by kernel_rfl) (ask_texts hw) 0 1 i h
  by_cases e3 : i.op = 3
  · refine .inr ⟨93, [.ref [.func (.func 78) [] []], .ref [i64 0], .ref [i64 1]], by rw [e3]; rfl, by kernel_rfl, fun K h => ?_⟩
    unfold effF at h
    simp only [e3, hn, Int.reduceEq, if_false, if_true] at h
    exact bel_c (by kernel_rfl) (ask_locals hw) 0 1 i h
  by_cases e4 : i.op = 4
  · refine .inr ⟨93, [.ref [.func (.func 83) [] []], .ref [i64 0], .ref [i64 1]], by rw [e4]; rfl, by kernel_rfl, fun K h => ?_⟩
    unfold effF at h
    simp only [e4, hn, Int.reduceEq, if_false, if_true] at h
    exact bel_c (by kernel_rfl) (ask_kept hw) 0 1 i h
  by_cases e5 : i.op = 5
  · refine .inr ⟨84, [], by rw [e5]; rfl, by kernel_rfl, fun K h => ?_⟩
    unfold effF at h
    simp only [e5, hn, Int.reduceEq, if_false, if_true, Int.natCast_pos] at h
    exact self_c hw i h
  by_cases e6 : i.op = 6
  · refine .inr ⟨93, [.ref [.func (.func 79) [] []], .ref [i64 0], .ref [i64 1]], by rw [e6]; rfl, by kernel_rfl, fun K h => ?_⟩
    unfold effF at h
    simp only [e6, hn, Int.reduceEq, if_false, if_true] at h
    exact bel_c (by kernel_rfl) (ask_lets hw) 0 1 i h
  by_cases e7 : i.op = 7
  · refine .inr ⟨93, [.ref [.func (.func 78) [] []], .ref [i64 1], .ref [i64 0]], by rw [e7]; rfl, by kernel_rfl, fun K h => ?_⟩
    unfold effF at h
    simp only [e7, hn, Int.reduceEq, if_false, if_true] at h
    exact bel_c (by kernel_rfl) (ask_locals hw) 1 0 i h
  by_cases e8 : i.op = 8
  · refine .inr ⟨93, [.ref [.func (.func 79) [] []], .ref [i64 1], .ref [i64 0]], by rw [e8]; rfl, by kernel_rfl, fun K h => ?_⟩
    unfold effF at h
    simp only [e8, hn, Int.reduceEq, if_false, if_true] at h
    exact bel_c (by kernel_rfl) (ask_lets hw) 1 0 i h
  by_cases e9 : i.op = 9
  · refine .inr ⟨94, [.ref [i64 1], .ref [i64 0]], by rw [e9]; rfl, by kernel_rfl, fun K h => ?_⟩
    unfold effF at h
    simp only [e9, hn, Int.reduceEq, if_false, if_true] at h
    exact fix_c 1 0 i _ h
  by_cases e10 : i.op = 10
  · refine .inr ⟨86, [], by rw [e10]; rfl, by kernel_rfl, fun K h => ?_⟩
    unfold effF at h
    simp only [e10, hn, Int.reduceEq, if_false, if_true] at h
    exact make_c i h
  by_cases e11 : i.op = 11
  · refine .inr ⟨87, [], by rw [e11]; rfl, by kernel_rfl, fun K h => ?_⟩
    unfold effF at h
    simp only [e11, hn, Int.reduceEq, if_false, if_true] at h
    exact fun_c hw hz i hl h
  by_cases e12 : i.op = 12
  · refine .inr ⟨93, [.ref [.func (.func 88) [] []], .ref [i64 1], .ref [i64 1]], by rw [e12]; rfl, by kernel_rfl, fun K h => ?_⟩
    unfold effF at h
    simp only [e12, hn, Int.reduceEq, if_false, if_true] at h
    exact bel_c (by kernel_rfl) (ask_four) 1 1 i h
  by_cases e13 : i.op = 13
  · refine .inr ⟨94, [.ref [i64 2], .ref [i64 1]], by rw [e13]; rfl, by kernel_rfl, fun K h => ?_⟩
    unfold effF at h
    simp only [e13, hn, Int.reduceEq, if_false, if_true] at h
    exact fix_c 2 1 i _ h
  by_cases e14 : i.op = 14
  · refine .inr ⟨94, [.ref [i64 2], .ref [i64 0]], by rw [e14]; rfl, by kernel_rfl, fun K h => ?_⟩
    unfold effF at h
    simp only [e14, hn, Int.reduceEq, if_false, if_true] at h
    exact fix_c 2 0 i _ h
  by_cases e15 : i.op = 15
  · refine .inr ⟨94, [.ref [i64 1], .ref [i64 0]], by rw [e15]; rfl, by kernel_rfl, fun K h => ?_⟩
    unfold effF at h
    simp only [e15, hn, Int.reduceEq, if_false, if_true] at h
    exact fix_c 1 0 i _ h
  by_cases e17 : i.op = 17
  · refine .inr ⟨94, [.ref [i64 1], .ref [i64 0]], by rw [e17]; rfl, by kernel_rfl, fun K h => ?_⟩
    unfold effF at h
    simp only [e17, hn, Int.reduceEq, if_false, if_true] at h
    exact fix_c 1 0 i _ h
  by_cases e18 : i.op = 18
  · refine .inr ⟨94, [.ref [i64 1], .ref [i64 0]], by rw [e18]; rfl, by kernel_rfl, fun K h => ?_⟩
    unfold effF at h
    simp only [e18, hn, Int.reduceEq, if_false, if_true] at h
    exact fix_c 1 0 i _ h
  by_cases e19 : i.op = 19
  · refine .inr ⟨93, [.ref [.func (.func 89) [] []], .ref [i64 2], .ref [i64 1]], by rw [e19]; rfl, by kernel_rfl, fun K h => ?_⟩
    unfold effF at h
    simp only [e19, hn, Int.reduceEq, if_false, if_true] at h
    exact bel_c (by kernel_rfl) (ask_seven) 2 1 i h
  by_cases e20 : i.op = 20
  · refine .inr ⟨94, [.ref [i64 2], .ref [i64 1]], by rw [e20]; rfl, by kernel_rfl, fun K h => ?_⟩
    unfold effF at h
    simp only [e20, hn, Int.reduceEq, if_false, if_true] at h
    exact fix_c 2 1 i _ h
  by_cases e23 : i.op = 23
  · refine .inr ⟨94, [.ref [i64 1], .ref [i64 0]], by rw [e23]; rfl, by kernel_rfl, fun K h => ?_⟩
    unfold effF at h
    simp only [e23, hn, Int.reduceEq, if_false, if_true] at h
    exact fix_c 1 0 i _ h
  by_cases e24 : i.op = 24
  · refine .inr ⟨94, [.ref [i64 1], .ref [i64 1]], by rw [e24]; rfl, by kernel_rfl, fun K h => ?_⟩
    unfold effF at h
    simp only [e24, hn, Int.reduceEq, if_false, if_true] at h
    exact fix_c 1 1 i _ h
  by_cases e25 : i.op = 25
  · refine .inr ⟨94, [.ref [i64 1], .ref [i64 1]], by rw [e25]; rfl, by kernel_rfl, fun K h => ?_⟩
    unfold effF at h
    simp only [e25, hn, Int.reduceEq, if_false, if_true] at h
    exact fix_c 1 1 i _ h
  by_cases e31 : i.op = 31
  · refine .inr ⟨94, [.ref [i64 1], .ref [i64 1]], by rw [e31]; rfl, by kernel_rfl, fun K h => ?_⟩
    unfold effF at h
    simp only [e31, hn, Int.reduceEq, if_false, if_true] at h
    exact fix_c 1 1 i _ h
  by_cases e32 : i.op = 32
  · refine .inr ⟨94, [.ref [i64 1], .ref [i64 1]], by rw [e32]; rfl, by kernel_rfl, fun K h => ?_⟩
    unfold effF at h
    simp only [e32, hn, Int.reduceEq, if_false, if_true] at h
    exact fix_c 1 1 i _ h
  by_cases e33 : i.op = 33
  · refine .inr ⟨94, [.ref [i64 2], .ref [i64 1]], by rw [e33]; rfl, by kernel_rfl, fun K h => ?_⟩
    unfold effF at h
    simp only [e33, hn, Int.reduceEq, if_false, if_true] at h
    exact fix_c 2 1 i _ h
  refine .inl ⟨?_, ?_⟩
  · have b : ∀ k : Int, i.op ≠ k → (k == i.op) = false := fun k h => beq_eq_false_iff_ne.2 fun e => h e.symm
    simp only [lookS, rulesL, List.find?_cons, List.find?_nil, Option.map_none, Option.getD_none, b 1 e1, b 2 e2, b 3 e3, b 4 e4, b 5 e5, b 6 e6, b 7 e7, b 8 e8, b 9 e9, b 10 e10, b 11 e11, b 12 e12, b 13 e13, b 14 e14, b 15 e15, b 17 e17, b 18 e18, b 19 e19, b 20 e20, b 23 e23, b 24 e24, b 25 e25, b 31 e31, b 32 e32, b 33 e33]
  · unfold effF
    simp only [e1, e2, e3, e4, e5, e6, e7, e8, e9, e10, e11, e12, e13, e14, e15, e17, e18, e19, e20, e23, e24, e25, e31, e32, e33, if_false]
end Go.Proofs
