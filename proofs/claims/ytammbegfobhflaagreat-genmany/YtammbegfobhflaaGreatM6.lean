/- The rules (printed by gen_w18.py). -/
import Derived.Test.YtammbegfobhflaaGreatN1
set_option linter.all false
set_option linter.unusedSimpArgs false
set_option linter.unusedVariables false
set_option maxRecDepth 8000
namespace Go.AL
def belowSV (a b : Int) (f : FuncId) : SV := .func (.func 109) [] [.ref [.func (.func f) [] []], .ref [i64 a], .ref [i64 b]]
def fixedSV (a b : Int) : SV := .func (.func 110) [] [.ref [i64 a], .ref [i64 b]]
def litMap (l : List (Int × SV)) : List (Value × SV) := l.map fun p => (.int .i64 p.1, p.2)
def rulesL : List (Int × SV) := [(1, belowSV 0 1 96), (2, belowSV 0 1 97), (3, belowSV 0 1 93), (4, belowSV 0 1 98), (5, SV.func (.func 99) [] []), (6, belowSV 0 1 94), (7, belowSV 1 0 93), (8, belowSV 1 0 94), (9, fixedSV 1 0), (10, SV.func (.func 101) [] []), (11, SV.func (.func 102) [] []), (12, belowSV 1 1 103), (13, fixedSV 2 1), (14, fixedSV 2 0), (15, fixedSV 1 0), (17, fixedSV 1 0), (18, fixedSV 1 0), (19, belowSV 2 1 104), (20, fixedSV 2 1), (23, fixedSV 1 0), (24, fixedSV 1 1), (25, fixedSV 1 1), (31, fixedSV 1 1), (32, fixedSV 1 1), (33, fixedSV 2 1)]
def lookS (l : List (Int × SV)) (z : SV) (k : Int) : SV := ((l.find? fun p => p.1 == k).map (·.2)).getD z
theorem litMap_int (l : List (Int × SV)) : IntKeys (litMap l) := by
  intro q hq
  obtain ⟨p, _, rfl⟩ := List.mem_map.1 hq
  exact ⟨p.1, rfl⟩
theorem ids_caps {n : Nat} {fn : Fn} (k : List SV) (h : ∀ x ∈ k, Ids n x) : Ids n (.func fn [] k) :=
  .func _ _ _ (fun i hi => by cases hi) fun i hi => by
    rw [List.getD_eq_getElem?_getD, List.getElem?_eq_getElem hi]
    exact h _ (List.getElem_mem hi)
theorem ids_ref1 {n : Nat} {x : SV} (h : Ids n x) : Ids n (.ref [x]) := .ref _ fun i hi => by
  obtain rfl : i = 0 := by simpa using hi
  exact h
theorem getOr_lit (l : List (Int × SV)) (z : SV) (k : Int) : getOr (litMap l) z k = (lookS l z k, (l.any fun p => p.1 == k)) := by
  unfold getOr lookS keyIdx
  induction l with
  | nil => rfl
  | cons p r ih =>
    unfold litMap at ih ⊢
    rw [List.map_cons, List.findIdx?_cons]
    simp only [keyEq_int]
    by_cases e : p.1 = k
    · simp [e]
    · have e' : ¬ k = p.1 := fun h => e h.symm
      have e2 : (p.1 == k) = false := beq_eq_false_iff_ne.2 e
      simp only [e', decide_false, Bool.false_eq_true, if_false, List.find?_cons, e2, List.any_cons, Bool.false_or]
      rw [← ih]
      generalize List.findIdx? _ _ = o
      cases o <;> rfl
end Go.AL
namespace Go.Proofs
open Go Go.AL
theorem below_c (a b : Int) (f : FuncId) (K : SV → St → Prop) (st : St) (h : K (belowSV a b f) st) : ACalls Tryz.prog 95 [i64 a, i64 b, .func (.func f) [] []] K st := by
  refine acalls_go_pure [] Tryz.func95 rfl Tryz.results95 Tryz.ntmps95 ?_
  simp only [go_sem]
  exact ⟨⟨[], by simp⟩, ids_caps _ (fun x hx => by
    simp only [List.mem_cons, List.not_mem_nil, or_false] at hx
    rcases hx with rfl | rfl | rfl
    · exact ids_ref1 (ids_caps [] fun x hx => (by cases hx))
    · exact ids_ref1 (.sc _)
    · exact ids_ref1 (.sc _)), h⟩
theorem fixed_c (a b : Int) (K : SV → St → Prop) (st : St) (h : K (fixedSV a b) st) : ACalls Tryz.prog 100 [i64 a, i64 b] K st := by
  refine acalls_go_pure [] Tryz.func100 rfl Tryz.results100 Tryz.ntmps100 ?_
  simp only [go_sem]
  exact ⟨⟨[], by simp⟩, ids_caps _ (fun x hx => by
    simp only [List.mem_cons, List.not_mem_nil, or_false] at hx
    rcases hx with rfl | rfl
    · exact ids_ref1 (.sc _)
    · exact ids_ref1 (.sc _)), h⟩
set_option maxHeartbeats 8000000 in
theorem rules_c (K : SV → St → Prop) (st : St) (h : K (.mp st.length) (st ++ [.map (litMap rulesL)])) : ACalls Tryz.prog 76 [] K st := by
  refine acalls_go (M := []) Tryz.func76 rfl Tryz.results76 Tryz.ntmps76 ?_
  simp only [go_sem]
  refine below_c 0 1 96 _ _ ?_
  simp (maxDischargeDepth := 60) only [go_sem, put_last Tryz.amap138, intKeys_nil', intKeys_put', belowSV, fixedSV]
  refine below_c 0 1 97 _ _ ?_
  simp (maxDischargeDepth := 60) only [go_sem, put_last Tryz.amap138, intKeys_nil', intKeys_put', belowSV, fixedSV]
  refine below_c 0 1 93 _ _ ?_
  simp (maxDischargeDepth := 60) only [go_sem, put_last Tryz.amap138, intKeys_nil', intKeys_put', belowSV, fixedSV]
  refine below_c 0 1 98 _ _ ?_
  simp (maxDischargeDepth := 60) only [go_sem, put_last Tryz.amap138, intKeys_nil', intKeys_put', belowSV, fixedSV]
  refine below_c 0 1 94 _ _ ?_
  simp (maxDischargeDepth := 60) only [go_sem, put_last Tryz.amap138, intKeys_nil', intKeys_put', belowSV, fixedSV]
  refine below_c 1 0 93 _ _ ?_
  simp (maxDischargeDepth := 60) only [go_sem, put_last Tryz.amap138, intKeys_nil', intKeys_put', belowSV, fixedSV]
  refine below_c 1 0 94 _ _ ?_
  simp (maxDischargeDepth := 60) only [go_sem, put_last Tryz.amap138, intKeys_nil', intKeys_put', belowSV, fixedSV]
  refine fixed_c 1 0 _ _ ?_
  simp (maxDischargeDepth := 60) only [go_sem, put_last Tryz.amap138, intKeys_nil', intKeys_put', belowSV, fixedSV]
  refine below_c 1 1 103 _ _ ?_
  simp (maxDischargeDepth := 60) only [go_sem, put_last Tryz.amap138, intKeys_nil', intKeys_put', belowSV, fixedSV]
  refine fixed_c 2 1 _ _ ?_
  simp (maxDischargeDepth := 60) only [go_sem, put_last Tryz.amap138, intKeys_nil', intKeys_put', belowSV, fixedSV]
  refine fixed_c 2 0 _ _ ?_
  simp (maxDischargeDepth := 60) only [go_sem, put_last Tryz.amap138, intKeys_nil', intKeys_put', belowSV, fixedSV]
  refine fixed_c 1 0 _ _ ?_
  simp (maxDischargeDepth := 60) only [go_sem, put_last Tryz.amap138, intKeys_nil', intKeys_put', belowSV, fixedSV]
  refine fixed_c 1 0 _ _ ?_
  simp (maxDischargeDepth := 60) only [go_sem, put_last Tryz.amap138, intKeys_nil', intKeys_put', belowSV, fixedSV]
  refine fixed_c 1 0 _ _ ?_
  simp (maxDischargeDepth := 60) only [go_sem, put_last Tryz.amap138, intKeys_nil', intKeys_put', belowSV, fixedSV]
  refine below_c 2 1 104 _ _ ?_
  simp (maxDischargeDepth := 60) only [go_sem, put_last Tryz.amap138, intKeys_nil', intKeys_put', belowSV, fixedSV]
  refine fixed_c 2 1 _ _ ?_
  simp (maxDischargeDepth := 60) only [go_sem, put_last Tryz.amap138, intKeys_nil', intKeys_put', belowSV, fixedSV]
  refine fixed_c 1 0 _ _ ?_
  simp (maxDischargeDepth := 60) only [go_sem, put_last Tryz.amap138, intKeys_nil', intKeys_put', belowSV, fixedSV]
  refine fixed_c 1 1 _ _ ?_
  simp (maxDischargeDepth := 60) only [go_sem, put_last Tryz.amap138, intKeys_nil', intKeys_put', belowSV, fixedSV]
  refine fixed_c 1 1 _ _ ?_
  simp (maxDischargeDepth := 60) only [go_sem, put_last Tryz.amap138, intKeys_nil', intKeys_put', belowSV, fixedSV]
  refine fixed_c 1 1 _ _ ?_
  simp (maxDischargeDepth := 60) only [go_sem, put_last Tryz.amap138, intKeys_nil', intKeys_put', belowSV, fixedSV]
  refine fixed_c 1 1 _ _ ?_
  simp (maxDischargeDepth := 60) only [go_sem, put_last Tryz.amap138, intKeys_nil', intKeys_put', belowSV, fixedSV]
  refine fixed_c 2 1 _ _ ?_
  simp (maxDischargeDepth := 60) only [go_sem, put_last Tryz.amap138, intKeys_nil', intKeys_put', belowSV, fixedSV]
  exact h
/-! What the rules tell. W: a walker: [funs, ints, texts, lets, n, kept, locals, stack, code]. -/
def wkCells (c : Cd) (m1 m2 m3 : AL.Mode) (z1 z2 z3 : Nat) (n : Nat) (f : Bd) : List SV := cdCells m1 m2 m3 z1 z2 z3 c ++ [i64 n, i64 f.kept, i64 f.locals, i64 f.stack, insSV f.code]
section
variable {c : Cd} {m1 m2 m3 : AL.Mode} {z1 z2 z3 : Nat} {n : Nat} {f : Bd} {id : Nat} {st : St} {K : SV → St → Prop}
theorem fin3 {st : St} {K : SV → St → Prop} {a : Bool} {b d : Int} (h : K (.tuple [.sc (.bool a), i64 b, i64 d]) st) : FinK st K (.tuple [.sc (.bool a), i64 b, i64 d]) st := by
  refine ⟨⟨[], by simp⟩, ?_, h⟩
  refine .tuple _ fun i hi => ?_
  match i, hi with
  | 0, _ => exact .sc _
  | 1, _ => exact .sc _
  | 2, _ => exact .sc _
theorem fix_c (a b : Int) (i : In) (hx : SV) (h : K (.tuple [.sc (.bool true), i64 a, i64 b]) st) : ACalls Tryz.prog 110 [hx, inSV i, .ref [i64 a], .ref [i64 b]] K st := by
  refine acalls_go_pure [] Tryz.func110 rfl Tryz.results110 Tryz.ntmps110 ?_
  simp only [go_sem, inSV, inCells]
  refine awp_drawW [] [(0, []), (0, []), (0, []), (0, []), (0, [])] Tryz.mixed rfl ?_
  simp only [go_sem, drawW_n, drawW_0, drawW_1, drawW_2, drawW_3, pend_n, pend_c, headD_c, isStore_s]
  exact fin3 h
/-- A function of a walker that is asked. -/
def AskC (id : Nat) (st : St) (g : FuncId) (x : Int) : Prop := ∀ K : SV → St → Prop, K (i64 x) st → ACalls Tryz.prog g [.ptr id 0] K st
theorem bel_c {g : FuncId} {x : Int} (hb : aBody Tryz.prog g = true) (hg : AskC id st g x) (a b : Int) (i : In) (h : K (.tuple [.sc (.bool (decide (i.a < x))), i64 a, i64 b]) st) : ACalls Tryz.prog 109 [.ptr id 0, inSV i, .ref [.func (.func g) [] []], .ref [i64 a], .ref [i64 b]] K st := by
  refine acalls_go_pure [] Tryz.func109 rfl Tryz.results109 Tryz.ntmps109 ?_
  simp only [go_sem, inSV, inCells]
  refine awp_draw [] Tryz.mixed rfl ?_
  simp only [go_sem, hb]
  rw [dk_eff]
  refine ⟨i64 x, ?_, ?_⟩
  · simp only [go_sem, hb]
    refine hg _ ?_
    exact ⟨⟨[], by simp⟩, .sc _, .inl rfl⟩
  simp only [go_sem]
  exact fin3 h
theorem ask_end {x : Int} (h : K (i64 x) st) : FinK st K (i64 x) st := ⟨⟨[], by simp⟩, .sc _, h⟩
theorem ask_four : AskC id st 103 4 := fun K h => by
  refine acalls_go_pure [] Tryz.func103 rfl Tryz.results103 Tryz.ntmps103 ?_
  simp only [go_sem]
  exact ask_end h
theorem ask_seven : AskC id st 104 7 := fun K h => by
  refine acalls_go_pure [] Tryz.func104 rfl Tryz.results104 Tryz.ntmps104 ?_
  simp only [go_sem]
  exact ask_end h
theorem make_c (i : In) (h : K (.tuple [.sc (.bool (decide (i.a ≤ 199) && decide (1 ≤ i.b) && decide (i.b ≤ 4))), i64 i.b, i64 1]) st) : ACalls Tryz.prog 101 [.ptr id 0, inSV i] K st := by
  refine acalls_go_pure [] Tryz.func101 rfl Tryz.results101 Tryz.ntmps101 ?_
  simp only [go_sem, inSV, inCells]
  refine awp_draw [] Tryz.mixed rfl ?_
  simp only [go_sem]
  exact fin3 h
variable (hw : st[id]? = some (.cells (wkCells c m1 m2 m3 z1 z2 z3 n f)))
include hw
theorem ask_locals : AskC id st 93 f.locals := fun K h => by
  have w := cells_facts hw
  refine acalls_go_pure [] Tryz.func93 rfl Tryz.results93 Tryz.ntmps93 ?_
  simp only [go_sem, w.1, w.2.1, w.2.2, wkCells, cdCells]
  exact ask_end h
theorem ask_lets : AskC id st 94 c.lets := fun K h => by
  have w := cells_facts hw
  refine acalls_go_pure [] Tryz.func94 rfl Tryz.results94 Tryz.ntmps94 ?_
  simp only [go_sem, w.1, w.2.1, w.2.2, wkCells, cdCells]
  exact ask_end h
theorem ask_ints : AskC id st 96 c.ints.length := fun K h => by
  have w := cells_facts hw
  refine acalls_go_pure [] Tryz.func96 rfl Tryz.results96 Tryz.ntmps96 ?_
  simp only [go_sem, w.1, w.2.1, w.2.2, wkCells, cdCells, List.length_map]
  exact ask_end h
theorem ask_texts : AskC id st 97 c.texts.length := fun K h => by
  have w := cells_facts hw
  refine acalls_go_pure [] Tryz.func97 rfl Tryz.results97 Tryz.ntmps97 ?_
  simp only [go_sem, w.1, w.2.1, w.2.2, wkCells, cdCells, List.length_map]
  exact ask_end h
theorem ask_kept : AskC id st 98 f.kept := fun K h => by
  have w := cells_facts hw
  refine acalls_go_pure [] Tryz.func98 rfl Tryz.results98 Tryz.ntmps98 ?_
  simp only [go_sem, w.1, w.2.1, w.2.2, wkCells, cdCells]
  exact ask_end h
theorem self_c (i : In) (h : K (.tuple [.sc (.bool (decide (0 < n))), i64 0, i64 1]) st) : ACalls Tryz.prog 99 [.ptr id 0, inSV i] K st := by
  have e : decide (0 < n) = decide ((0 : Int) < (n : Int)) := by simp
  rw [e] at h
  have w := cells_facts hw
  refine acalls_go_pure [] Tryz.func99 rfl Tryz.results99 Tryz.ntmps99 ?_
  simp only [go_sem, w.1, w.2.1, w.2.2, wkCells, cdCells, inSV, inCells]
  exact fin3 h
theorem fun_c (hz : c.funs ≠ [] → z1 = 4) (i : In) (hl : c.funs.length ≤ 1000) (h : K (.tuple [.sc (.bool (decide (0 < i.a) && decide (i.a < c.funs.length) && (c.funs.getD i.a.toNat default).kept == i.b)), i64 i.b, i64 1]) st) : ACalls Tryz.prog 102 [.ptr id 0, inSV i] K st := by
  have w := cells_facts hw
  by_cases h1 : 0 < i.a
  · by_cases h2 : i.a < c.funs.length
    · have h0 : 0 ≤ i.a := by omega
      have hlt : i.a.toNat < c.funs.length := by omega
      have hg : (c.funs.map bdSV).getD i.a.toNat .any = bdSV (c.funs.getD i.a.toNat default) := getD_map' _ hlt
      obtain rfl := hz (by intro e; rw [e] at hlt; cases hlt)
      simp only [h1, h2, decide_true, Bool.true_and] at h
      refine acalls_go_pure [] Tryz.func102 rfl Tryz.results102 Tryz.ntmps102 ?_
      simp only [go_sem, inSV, inCells]
      refine awp_draw [] Tryz.mixed rfl ?_
      simp only [go_sem, w.1, w.2.1, w.2.2, wkCells, cdCells, h1, h2, h0, hg, bdSV, List.length_map]
      exact fin3 h
    · simp only [h1, h2, decide_true, decide_false, Bool.true_and, Bool.false_and, Bool.and_false] at h
      refine acalls_go_pure [] Tryz.func102 rfl Tryz.results102 Tryz.ntmps102 ?_
      simp only [go_sem, inSV, inCells]
      refine awp_draw [] Tryz.mixed rfl ?_
      simp only [go_sem, w.1, w.2.1, w.2.2, wkCells, cdCells, h1, h2, List.length_map]
      exact fin3 h
  · simp only [h1, decide_false, Bool.false_and] at h
    refine acalls_go_pure [] Tryz.func102 rfl Tryz.results102 Tryz.ntmps102 ?_
    simp only [go_sem, inSV, inCells]
    refine awp_draw [] Tryz.mixed rfl ?_
    simp only [go_sem, w.1, w.2.1, w.2.2, wkCells, cdCells, h1, List.length_map]
    exact fin3 h
end
end Go.Proofs
set_option linter.unusedSimpArgs false
set_option linter.unusedVariables false
set_option maxRecDepth 8000
namespace Go.Proofs
open Go Go.AL
set_option maxHeartbeats 4000000 in
theorem rule_told {c : Cd} {m1 m2 m3 : AL.Mode} {z1 z2 z3 : Nat} {n : Nat} {f : Bd} {id : Nat} {st : St} (hw : st[id]? = some (.cells (wkCells c m1 m2 m3 z1 z2 z3 n f))) (hz : c.funs ≠ [] → z1 = 4) (hl : c.funs.length ≤ 1000) (hn : c.funs.getD n default = f) (i : In) :
    (lookS rulesL (.sc .nilFunc) i.op = .sc .nilFunc ∧ effF c n i = (true, 0, 0)) ∨ ∃ g caps, lookS rulesL (.sc .nilFunc) i.op = .func (.func g) [] caps ∧ aBody Tryz.prog g = true ∧
      ∀ K : SV → St → Prop, K (.tuple [.sc (.bool (effF c n i).1), i64 (effF c n i).2.1, i64 (effF c n i).2.2]) st → ACalls Tryz.prog g (.ptr id 0 :: inSV i :: caps) K st := by
  by_cases e1 : i.op = 1
  · refine .inr ⟨109, [.ref [.func (.func 96) [] []], .ref [i64 0], .ref [i64 1]], by rw [e1]; rfl, by kernel_rfl, fun K h => ?_⟩
    unfold effF at h
    simp only [e1, hn, Int.reduceEq, if_false, if_true] at h
    exact bel_c (by kernel_rfl) (ask_ints hw) 0 1 i h
  by_cases e2 : i.op = 2
  · refine .inr ⟨109, [.ref [.func (.func 97) [] []], .ref [i64 0], .ref [i64 1]], by rw [e2]; rfl, by kernel_rfl, fun K h => ?_⟩
    unfold effF at h
    simp only [e2, hn, Int.reduceEq, if_false, if_true] at h
    exact bel_c (by kernel_rfl) (ask_texts hw) 0 1 i h
  by_cases e3 : i.op = 3
  · refine .inr ⟨109, [.ref [.func (.func 93) [] []], .ref [i64 0], .ref [i64 1]], by rw [e3]; rfl, by kernel_rfl, fun K h => ?_⟩
    unfold effF at h
    simp only [e3, hn, Int.reduceEq, if_false, if_true] at h
    exact bel_c (by kernel_rfl) (ask_locals hw) 0 1 i h
  by_cases e4 : i.op = 4
  · refine .inr ⟨109, [.ref [.func (.func 98) [] []], .ref [i64 0], .ref [i64 1]], by rw [e4]; rfl, by kernel_rfl, fun K h => ?_⟩
    unfold effF at h
    simp only [e4, hn, Int.reduceEq, if_false, if_true] at h
    exact bel_c (by kernel_rfl) (ask_kept hw) 0 1 i h
  by_cases e5 : i.op = 5
  · refine .inr ⟨99, [], by rw [e5]; rfl, by kernel_rfl, fun K h => ?_⟩
    unfold effF at h
    simp only [e5, hn, Int.reduceEq, if_false, if_true, Int.natCast_pos] at h
    exact self_c hw i h
  by_cases e6 : i.op = 6
  · refine .inr ⟨109, [.ref [.func (.func 94) [] []], .ref [i64 0], .ref [i64 1]], by rw [e6]; rfl, by kernel_rfl, fun K h => ?_⟩
    unfold effF at h
    simp only [e6, hn, Int.reduceEq, if_false, if_true] at h
    exact bel_c (by kernel_rfl) (ask_lets hw) 0 1 i h
  by_cases e7 : i.op = 7
  · refine .inr ⟨109, [.ref [.func (.func 93) [] []], .ref [i64 1], .ref [i64 0]], by rw [e7]; rfl, by kernel_rfl, fun K h => ?_⟩
    unfold effF at h
    simp only [e7, hn, Int.reduceEq, if_false, if_true] at h
    exact bel_c (by kernel_rfl) (ask_locals hw) 1 0 i h
  by_cases e8 : i.op = 8
  · refine .inr ⟨109, [.ref [.func (.func 94) [] []], .ref [i64 1], .ref [i64 0]], by rw [e8]; rfl, by kernel_rfl, fun K h => ?_⟩
    unfold effF at h
    simp only [e8, hn, Int.reduceEq, if_false, if_true] at h
    exact bel_c (by kernel_rfl) (ask_lets hw) 1 0 i h
  by_cases e9 : i.op = 9
  · refine .inr ⟨110, [.ref [i64 1], .ref [i64 0]], by rw [e9]; rfl, by kernel_rfl, fun K h => ?_⟩
    unfold effF at h
    simp only [e9, hn, Int.reduceEq, if_false, if_true] at h
    exact fix_c 1 0 i _ h
  by_cases e10 : i.op = 10
  · refine .inr ⟨101, [], by rw [e10]; rfl, by kernel_rfl, fun K h => ?_⟩
    unfold effF at h
    simp only [e10, hn, Int.reduceEq, if_false, if_true] at h
    exact make_c i h
  by_cases e11 : i.op = 11
  · refine .inr ⟨102, [], by rw [e11]; rfl, by kernel_rfl, fun K h => ?_⟩
    unfold effF at h
    simp only [e11, hn, Int.reduceEq, if_false, if_true] at h
    exact fun_c hw hz i hl h
  by_cases e12 : i.op = 12
  · refine .inr ⟨109, [.ref [.func (.func 103) [] []], .ref [i64 1], .ref [i64 1]], by rw [e12]; rfl, by kernel_rfl, fun K h => ?_⟩
    unfold effF at h
    simp only [e12, hn, Int.reduceEq, if_false, if_true] at h
    exact bel_c (by kernel_rfl) (ask_four) 1 1 i h
  by_cases e13 : i.op = 13
  · refine .inr ⟨110, [.ref [i64 2], .ref [i64 1]], by rw [e13]; rfl, by kernel_rfl, fun K h => ?_⟩
    unfold effF at h
    simp only [e13, hn, Int.reduceEq, if_false, if_true] at h
    exact fix_c 2 1 i _ h
  by_cases e14 : i.op = 14
  · refine .inr ⟨110, [.ref [i64 2], .ref [i64 0]], by rw [e14]; rfl, by kernel_rfl, fun K h => ?_⟩
    unfold effF at h
    simp only [e14, hn, Int.reduceEq, if_false, if_true] at h
    exact fix_c 2 0 i _ h
  by_cases e15 : i.op = 15
  · refine .inr ⟨110, [.ref [i64 1], .ref [i64 0]], by rw [e15]; rfl, by kernel_rfl, fun K h => ?_⟩
    unfold effF at h
    simp only [e15, hn, Int.reduceEq, if_false, if_true] at h
    exact fix_c 1 0 i _ h
  by_cases e17 : i.op = 17
  · refine .inr ⟨110, [.ref [i64 1], .ref [i64 0]], by rw [e17]; rfl, by kernel_rfl, fun K h => ?_⟩
    unfold effF at h
    simp only [e17, hn, Int.reduceEq, if_false, if_true] at h
    exact fix_c 1 0 i _ h
  by_cases e18 : i.op = 18
  · refine .inr ⟨110, [.ref [i64 1], .ref [i64 0]], by rw [e18]; rfl, by kernel_rfl, fun K h => ?_⟩
    unfold effF at h
    simp only [e18, hn, Int.reduceEq, if_false, if_true] at h
    exact fix_c 1 0 i _ h
  by_cases e19 : i.op = 19
  · refine .inr ⟨109, [.ref [.func (.func 104) [] []], .ref [i64 2], .ref [i64 1]], by rw [e19]; rfl, by kernel_rfl, fun K h => ?_⟩
    unfold effF at h
    simp only [e19, hn, Int.reduceEq, if_false, if_true] at h
    exact bel_c (by kernel_rfl) (ask_seven) 2 1 i h
  by_cases e20 : i.op = 20
  · refine .inr ⟨110, [.ref [i64 2], .ref [i64 1]], by rw [e20]; rfl, by kernel_rfl, fun K h => ?_⟩
    unfold effF at h
    simp only [e20, hn, Int.reduceEq, if_false, if_true] at h
    exact fix_c 2 1 i _ h
  by_cases e23 : i.op = 23
  · refine .inr ⟨110, [.ref [i64 1], .ref [i64 0]], by rw [e23]; rfl, by kernel_rfl, fun K h => ?_⟩
    unfold effF at h
    simp only [e23, hn, Int.reduceEq, if_false, if_true] at h
    exact fix_c 1 0 i _ h
  by_cases e24 : i.op = 24
  · refine .inr ⟨110, [.ref [i64 1], .ref [i64 1]], by rw [e24]; rfl, by kernel_rfl, fun K h => ?_⟩
    unfold effF at h
    simp only [e24, hn, Int.reduceEq, if_false, if_true] at h
    exact fix_c 1 1 i _ h
  by_cases e25 : i.op = 25
  · refine .inr ⟨110, [.ref [i64 1], .ref [i64 1]], by rw [e25]; rfl, by kernel_rfl, fun K h => ?_⟩
    unfold effF at h
    simp only [e25, hn, Int.reduceEq, if_false, if_true] at h
    exact fix_c 1 1 i _ h
  by_cases e31 : i.op = 31
  · refine .inr ⟨110, [.ref [i64 1], .ref [i64 1]], by rw [e31]; rfl, by kernel_rfl, fun K h => ?_⟩
    unfold effF at h
    simp only [e31, hn, Int.reduceEq, if_false, if_true] at h
    exact fix_c 1 1 i _ h
  by_cases e32 : i.op = 32
  · refine .inr ⟨110, [.ref [i64 1], .ref [i64 1]], by rw [e32]; rfl, by kernel_rfl, fun K h => ?_⟩
    unfold effF at h
    simp only [e32, hn, Int.reduceEq, if_false, if_true] at h
    exact fix_c 1 1 i _ h
  by_cases e33 : i.op = 33
  · refine .inr ⟨110, [.ref [i64 2], .ref [i64 1]], by rw [e33]; rfl, by kernel_rfl, fun K h => ?_⟩
    unfold effF at h
    simp only [e33, hn, Int.reduceEq, if_false, if_true] at h
    exact fix_c 2 1 i _ h
  refine .inl ⟨?_, ?_⟩
  · have b : ∀ k : Int, i.op ≠ k → (k == i.op) = false := fun k h => beq_eq_false_iff_ne.2 fun e => h e.symm
    simp only [lookS, rulesL, List.find?_cons, List.find?_nil, Option.map_none, Option.getD_none, b 1 e1, b 2 e2, b 3 e3, b 4 e4, b 5 e5, b 6 e6, b 7 e7, b 8 e8, b 9 e9, b 10 e10, b 11 e11, b 12 e12, b 13 e13, b 14 e14, b 15 e15, b 17 e17, b 18 e18, b 19 e19, b 20 e20, b 23 e23, b 24 e24, b 25 e25, b 31 e31, b 32 e32, b 33 e33]
  · unfold effF
    simp only [e1, e2, e3, e4, e5, e6, e7, e8, e9, e10, e11, e12, e13, e14, e15, e17, e18, e19, e20, e23, e24, e25, e31, e32, e33, if_false]
end Go.Proofs
