/- The writer: put. -/
import Derived.Test.YtammbegfobhflaaGreatW0
set_option linter.all false
set_option linter.unusedSimpArgs false
set_option linter.unusedVariables false
set_option maxRecDepth 8000
namespace Go.Proofs
open Go Go.AL
theorem n0 : ((0 : Nat) : Int) = 0 := rfl
theorem n1 : ((1 : Nat) : Int) = 1 := rfl
theorem n2 : ((2 : Nat) : Int) = 2 := rfl
theorem Tryz.app53 {n : Nat} (h : n ≤ 1000000) : AppOk Tryz.prog 49 49 3 n := appOk_of Tryz.aelem49 Tryz.aelem49 Tryz.asize56 Tryz.azero56 rfl Tryz.abytes56 (by omega) h
theorem Tryz.app24 {n : Nat} (h : n ≤ 1000000) : AppOk Tryz.prog 23 23 1 n := appOk_of Tryz.aelem23 Tryz.aelem23 Tryz.asize3 Tryz.azero3 rfl Tryz.abytes3 (by omega) h
theorem Tryz.app36 {n : Nat} (h : n ≤ 1000000) : AppOk Tryz.prog 35 35 1 n := appOk_of Tryz.aelem35 Tryz.aelem35 Tryz.asize9 Tryz.azero9 rfl Tryz.abytes9 (by omega) h
/-- What turns where the code becomes longer. -/
theorem put_stW {s : St} {L : WL} {g : GS} {v : GV} (h : AtW s L g v) (i : In) :
    (s.set L.a (.arr (v.ver + 1) 3 (codeCells g.code ++ inCells i))).set L.w (.cells [.ptr L.p 0, .arr L.a (v.ver + 1) (g.code.length + 1)]) = stW s L ⟨g.code ++ [i], g.ints, g.texts⟩ ⟨v.ver + 1, v.vi, v.vt⟩ := by
  have a := lt_of_get h.w
  have c := lt_of_get h.a
  refine stW_of (by simp) (fun j hj => by rw [set_get_ne hj.1, set_get_ne hj.2.2.1]) h ⟨?_, ?_, ?_, ?_, ?_⟩
  · rw [set_get (by simpa using a)]; simp [wOb]
  · rw [set_get_ne h.nwp.symm, set_get_ne h.npa, h.p]; rfl
  · rw [set_get_ne h.nwa.symm, set_get c, codeCells_app]; simp [codeCells]
  · rw [set_get_ne h.nwi.symm, set_get_ne h.nai.symm, h.ti]
  · rw [set_get_ne h.nwt.symm, set_get_ne h.nat.symm, h.tt]
def putV (g : GS) (v : GV) : GV := if g.code.length ≤ 400 then ⟨v.ver + 1, v.vi, v.vt⟩ else v
set_option maxHeartbeats 4000000 in
theorem put_k {s : St} {L : WL} {g : GS} {v : GV} (hA : AtW s L g v) (op : Int) (m : AL.Mode) (z : Nat) (l : List Int) (hz : l ≠ [] → z = 1) (hl : l.length ≤ 2) (hn : g.code.length ≤ 1000) (K : SV → St → Prop)
    (h : K (i64 (atG (putG op (l.getD 0 0) (l.getD 1 0) g) : Nat)) (stW s L (putG op (l.getD 0 0) (l.getD 1 0) g) (putV g v))) : ACalls Tryz.prog 17 [.ptr L.w 0, i64 op, .slice m z (l.map i64)] K s := by
  obtain ⟨⟨w1, w2, w3⟩, ⟨p1, p2, p3⟩, ⟨a1, a2, a3, a4⟩, -, -⟩ := hA.facts
  have nwa := hA.nwa
  have nwa' := hA.nwa.symm
  have happ := Tryz.app53 (n := g.code.length + 1) (by omega)
  have hcl := codeCells_len g.code
  have htk : (codeCells g.code).take (g.code.length * 3) = codeCells g.code := List.take_of_length_le (by omega)
  have fin : ∀ (X : List SV), (g.code.length ≤ 400 → FinM s K (i64 (IntKind.i64.wrap (((g.code.length + 1 : Nat) : Int) - 1))) ((s.set L.a (.arr (v.ver + 1) 3 (codeCells g.code ++ inCells ⟨op, l.getD 0 0, l.getD 1 0⟩))).set L.w (.cells [.ptr L.p 0, .arr L.a (v.ver + 1) (g.code.length + 1)]) ++ [.cells X])) ∧
      (¬ g.code.length ≤ 400 → FinM s K (i64 (IntKind.i64.wrap ((g.code.length : Int) - 1))) (s ++ [.cells X])) := by
    intro X
    refine ⟨fun hc => ?_, fun hc => ?_⟩
    · rw [put_stW hA]
      have e : putG op (l.getD 0 0) (l.getD 1 0) g = ⟨g.code ++ [⟨op, l.getD 0 0, l.getD 1 0⟩], g.ints, g.texts⟩ := put_ok _ _ _ _ hc
      have hw : IntKind.i64.wrap (((g.code.length + 1 : Nat) : Int) - 1) = ((atG (putG op (l.getD 0 0) (l.getD 1 0) g) : Nat) : Int) := by
        rw [IntWalk.i64_in _ (by omega), e]; simp [atG]
      rw [hw, ← e]
      rw [putV, if_pos hc] at h
      exact fin_W hA rfl (.sc _) h
    · have e : putG op (l.getD 0 0) (l.getD 1 0) g = g := put_no _ _ _ _ (by omega)
      have hw : IntKind.i64.wrap ((g.code.length : Int) - 1) = ((atG (putG op (l.getD 0 0) (l.getD 1 0) g) : Nat) : Int) := by
        rw [IntWalk.i64_in _ (by omega), e]; simp only [atG]; omega
      rw [hw]
      have := h
      rw [putV, if_neg hc, e, stW_self hA] at this
      refine ⟨s, _, rfl, Mod.refl _, .sc _, ?_⟩
      rw [e]; exact this
  refine acalls_go_mod [7] Tryz.func17 rfl Tryz.results17 Tryz.ntmps17 ?_
  have fin := fin [i64 op, i64 (l.getD 0 0), i64 (l.getD 1 0)]
  match l, hz, hl, fin with
  | [], _, _, fin =>
    simp only [List.getD_nil] at fin
    simp only [go_sem, List.map_nil, List.length_nil, List.length_cons, Nat.zero_add, n0, n1, n2, Nat.reduceAdd, w1, w2, w3, a1, a2, a3, a4, nwa, nwa', wOb]
    refine ⟨fun hc => ?_, fun hc => fin.2 (by simp only [decide_eq_false_iff_not] at hc; omega)⟩
    have hc := fin.1 (by simp only [decide_eq_true_eq] at hc; omega)
    refine awp_drawW [] [(0, [10]), (0, []), (0, []), (0, []), (0, []), (0, []), (0, []), (3, [10]), (0, []), (0, []), (1, [11])] Tryz.mixed rfl ?_
    simp only [go_sem, drawW_n, drawW_0, drawW_1, drawW_2, drawW_3, pend_n, pend_c, headD_c, isStore_s, List.length_nil, List.length_cons, Nat.zero_add, n0, n1, n2, Nat.reduceAdd, w1, w2, w3, a1, a2, a3, a4, nwa, nwa', wOb]
    rw [dk_eff]
    refine ⟨.slice .full 3 [.agg [i64 op, i64 0, i64 0]], ?_, ?_⟩
    · simp only [go_sem]
      exact ⟨⟨[], by simp⟩, ids_slice (.inr rfl) (fun x hx y hy => by simp only [List.mem_singleton] at hx; subst hx; simp only [SV.cells, List.mem_cons, List.not_mem_nil, or_false] at hy; rcases hy with rfl | rfl | rfl <;> exact .sc _), .inl rfl⟩
    simp only [go_sem, drawW_n, drawW_0, drawW_1, drawW_2, drawW_3, pend_n, pend_c, headD_c, isStore_s, List.length_nil, List.length_cons, Nat.zero_add, n0, n1, n2, Nat.reduceAdd, w1, w2, w3, a1, a2, a3, a4, nwa, nwa', wOb]
    refine ⟨_, _, ⟨happ, rfl, rfl⟩, ?_⟩
    simp only [go_sem, drawW_n, drawW_0, drawW_1, drawW_2, drawW_3, pend_n, pend_c, headD_c, isStore_s, List.length_nil, List.length_cons, Nat.zero_add, n0, n1, n2, Nat.reduceAdd, w1, w2, w3, a1, a2, a3, a4, nwa, nwa', wOb, htk, List.flatMap_cons, List.flatMap_nil, List.append_nil]
    exact hc
  | [x], hz, _, fin =>
    obtain rfl := hz (by simp)
    simp only [List.getD_cons_zero, List.getD_cons_succ, List.getD_nil] at fin
    simp only [go_sem, List.map_nil, List.map_cons, List.getD_cons_zero, List.getD_cons_succ, List.length_nil, List.length_cons, Nat.zero_add, n0, n1, n2, Nat.reduceAdd, w1, w2, w3, a1, a2, a3, a4, nwa, nwa', wOb]
    refine ⟨fun hc => ?_, fun hc => fin.2 (by simp only [decide_eq_false_iff_not] at hc; omega)⟩
    have hc := fin.1 (by simp only [decide_eq_true_eq] at hc; omega)
    refine awp_drawW [] [(0, [10]), (0, []), (0, []), (0, []), (0, []), (0, []), (0, []), (3, [10]), (0, []), (0, []), (1, [11])] Tryz.mixed rfl ?_
    simp only [go_sem, drawW_n, drawW_0, drawW_1, drawW_2, drawW_3, pend_n, pend_c, headD_c, isStore_s, List.length_nil, List.length_cons, Nat.zero_add, n0, n1, n2, Nat.reduceAdd, w1, w2, w3, a1, a2, a3, a4, nwa, nwa', wOb]
    rw [dk_eff]
    refine ⟨.slice .full 3 [.agg [i64 op, i64 x, i64 0]], ?_, ?_⟩
    · simp only [go_sem]
      exact ⟨⟨[], by simp⟩, ids_slice (.inr rfl) (fun x hx y hy => by simp only [List.mem_singleton] at hx; subst hx; simp only [SV.cells, List.mem_cons, List.not_mem_nil, or_false] at hy; rcases hy with rfl | rfl | rfl <;> exact .sc _), .inl rfl⟩
    simp only [go_sem, drawW_n, drawW_0, drawW_1, drawW_2, drawW_3, pend_n, pend_c, headD_c, isStore_s, List.length_nil, List.length_cons, Nat.zero_add, n0, n1, n2, Nat.reduceAdd, w1, w2, w3, a1, a2, a3, a4, nwa, nwa', wOb]
    refine ⟨_, _, ⟨happ, rfl, rfl⟩, ?_⟩
    simp only [go_sem, drawW_n, drawW_0, drawW_1, drawW_2, drawW_3, pend_n, pend_c, headD_c, isStore_s, List.length_nil, List.length_cons, Nat.zero_add, n0, n1, n2, Nat.reduceAdd, w1, w2, w3, a1, a2, a3, a4, nwa, nwa', wOb, htk, List.flatMap_cons, List.flatMap_nil, List.append_nil]
    exact hc
  | [x, y], hz, _, fin =>
    obtain rfl := hz (by simp)
    simp only [List.getD_cons_zero, List.getD_cons_succ, List.getD_nil] at fin
    simp only [go_sem, List.map_nil, List.map_cons, List.getD_cons_zero, List.getD_cons_succ, List.length_nil, List.length_cons, Nat.zero_add, n0, n1, n2, Nat.reduceAdd, w1, w2, w3, a1, a2, a3, a4, nwa, nwa', wOb]
    refine ⟨fun hc => ?_, fun hc => fin.2 (by simp only [decide_eq_false_iff_not] at hc; omega)⟩
    have hc := fin.1 (by simp only [decide_eq_true_eq] at hc; omega)
    refine awp_drawW [] [(0, [10]), (0, []), (0, []), (0, []), (0, []), (0, []), (0, []), (3, [10]), (0, []), (0, []), (1, [11])] Tryz.mixed rfl ?_
    simp only [go_sem, drawW_n, drawW_0, drawW_1, drawW_2, drawW_3, pend_n, pend_c, headD_c, isStore_s, List.length_nil, List.length_cons, Nat.zero_add, n0, n1, n2, Nat.reduceAdd, w1, w2, w3, a1, a2, a3, a4, nwa, nwa', wOb]
    rw [dk_eff]
    refine ⟨.slice .full 3 [.agg [i64 op, i64 x, i64 y]], ?_, ?_⟩
    · simp only [go_sem]
      exact ⟨⟨[], by simp⟩, ids_slice (.inr rfl) (fun x hx y hy => by simp only [List.mem_singleton] at hx; subst hx; simp only [SV.cells, List.mem_cons, List.not_mem_nil, or_false] at hy; rcases hy with rfl | rfl | rfl <;> exact .sc _), .inl rfl⟩
    simp only [go_sem, drawW_n, drawW_0, drawW_1, drawW_2, drawW_3, pend_n, pend_c, headD_c, isStore_s, List.length_nil, List.length_cons, Nat.zero_add, n0, n1, n2, Nat.reduceAdd, w1, w2, w3, a1, a2, a3, a4, nwa, nwa', wOb]
    refine ⟨_, _, ⟨happ, rfl, rfl⟩, ?_⟩
    simp only [go_sem, drawW_n, drawW_0, drawW_1, drawW_2, drawW_3, pend_n, pend_c, headD_c, isStore_s, List.length_nil, List.length_cons, Nat.zero_add, n0, n1, n2, Nat.reduceAdd, w1, w2, w3, a1, a2, a3, a4, nwa, nwa', wOb, htk, List.flatMap_cons, List.flatMap_nil, List.append_nil]
    exact hc
theorem put_c {s : St} {L : WL} {g : GS} {v : GV} (hA : AtW s L g v) (op : Int) (m : AL.Mode) (z : Nat) (l : List Int) (hz : l ≠ [] → z = 1) (hl : l.length ≤ 2) (hn : g.code.length ≤ 1000) (K : SV → St → Prop)
    (h : ∀ v', K (i64 (atG (putG op (l.getD 0 0) (l.getD 1 0) g) : Nat)) (stW s L (putG op (l.getD 0 0) (l.getD 1 0) g) v')) : ACalls Tryz.prog 17 [.ptr L.w 0, i64 op, .slice m z (l.map i64)] K s :=
  put_k hA op m z l hz hl hn K (h _)
end Go.Proofs
set_option linter.unusedSimpArgs false
set_option linter.unusedVariables false
set_option maxRecDepth 8000
namespace Go.Proofs
open Go Go.AL
set_option maxHeartbeats 4000000 in
theorem kid_c (c : Co) (i : Nat) (hi : i ≤ 1000000) (K : SV → St → Prop) (st : St) (h : K (coSV (kidC c i)) st) : ACalls Tryz.prog 21 [.agg [i64 c.kind, i64 c.number, str c.text, cosSV c.kids, i64 0, .slice .imm 1 [], .slice .imm 6 [], .slice .imm 4 [], bdsSV c.binds], i64 i] K st := by
  refine acalls_le ?_
  refine acalls_go_pure [4] Tryz.func21 rfl Tryz.results21 Tryz.ntmps21 ?_
  by_cases hlt : i < c.kids.length
  · have e : kidC c i = c.kids.getD i default := by
      unfold kidC; simp [List.getD_eq_getElem?_getD, hlt]
    have c1 : decide ((c.kids.length : Int) ≤ (i : Int)) = false := by simp; omega
    have c2 : (i : Int) < (c.kids.length : Int) := by omega
    rw [e] at h
    simp only [go_sem, c1, c2, getD_map' _ hlt]
    unfold FinK
    rw [norm_co]
    exact ⟨⟨_, rfl⟩, ids_co _ _, _, SVle.refl _, h⟩
  · have e : kidC c i = noC := by
      unfold kidC; simp [List.getD_eq_getElem?_getD, List.getElem?_eq_none (Nat.not_lt.1 hlt)]
    have c1 : decide ((c.kids.length : Int) ≤ (i : Int)) = true := by simp; omega
    rw [e] at h
    simp only [go_sem, c1]
    refine ⟨⟨_, rfl⟩, ?_, _, ?_, h⟩
    · simp only [norm, List.map_cons, List.map_nil, norm1, ids_agg, List.forall_mem_cons, ids_sc, true_and]
      have k : ∀ n m, Ids n (.slice .imm m []) := fun n m => ids_nil n _ m (.inl rfl)
      exact ⟨k _ _, k _ _, k _ _, k _ _, k _ _, fun x hx => by cases hx⟩
    · rw [coSV_eq]
      exact SVle.agg (.cons (SVle.refl _) (.cons (SVle.refl _) (.cons (SVle.refl _) (.cons (SVle.nil _ _ _ (.inr rfl)) (.cons (SVle.refl _) (.cons (SVle.nil _ _ _ (.inr rfl)) (.cons (SVle.nil _ _ _ (.inr rfl)) (.cons (SVle.nil _ _ _ (.inr rfl)) (.cons (SVle.nil _ _ _ (.inr rfl)) .nil)))))))))
/-! slices.Index. -/
def idxI (n : Int) (l : List Int) : Int := match l.findIdx? (· == n) with | some k => (k : Int) | none => -1
def idxT (t : ByteArray) (l : List ByteArray) : Int := match l.findIdx? (fun x => x.data.toList == t.data.toList) with | some k => (k : Int) | none => -1
theorem find_step {α : Type} {p : α → Bool} {l : List α} {k : Nat} (h : ∀ j, j < k → ∀ x, l[j]? = some x → p x = false) (hk : k < l.length) (hp : p l[k] = true) : l.findIdx? p = some k := by
  rw [List.findIdx?_eq_some_iff_getElem]
  refine ⟨hk, hp, fun j hj => ?_⟩
  have := h j hj _ (List.getElem?_eq_getElem (by omega))
  simp [this]
theorem find_end {α : Type} {p : α → Bool} {l : List α} (h : ∀ j, j < l.length → ∀ x, l[j]? = some x → p x = false) : l.findIdx? p = none := by
  rw [List.findIdx?_eq_none_iff]
  intro x hx
  obtain ⟨j, hj⟩ := List.getElem?_of_mem hx
  exact h j (lt_of_get hj) x hj
set_option maxHeartbeats 4000000 in
theorem indexI_c (m : AL.Mode) (n : Int) (l : List Int) (hl : l.length ≤ 1000000) (K : SV → St → Prop) (st : St) (h : K (i64 (idxI n l)) st) : ACalls Tryz.prog 46 [.slice m 1 (l.map i64), i64 n] K st := by
  refine acalls_go_pure [] Tryz.func46 rfl Tryz.results46 Tryz.ntmps46 ?_
  simp only [go_sem]
  refine awp_rounds [] (fun b e s => ∃ k, k + b = l.length ∧ (∀ j, j < k → ∀ x, l[j]? = some x → (x == n) = false) ∧ e = [.slice m 1 (l.map i64), i64 n, .any, .any, .any, .any, .any, i64 l.length, i64 k, .any, .any, .any, .any, .any, .any, .any, .any, .any, .any] ∧ s = st) (n := l.length) ?_ ⟨0, by omega, fun j hj => absurd hj (Nat.not_lt_zero _), rfl, rfl⟩ ?_
  · repeat (first | exact leEnv_nil | refine leEnv_any _ ?_ | refine leEnv_same _ ?_ | refine leEnv_norm _ ?_)
  rintro b e s ⟨k, hk, hno, rfl, rfl⟩
  by_cases hlt : k < l.length
  · have c1 : (k : Int) < (l.length : Int) := by omega
    have hw : IntKind.i64.wrap ((k : Int) + 1) = ((k + 1 : Nat) : Int) := by rw [IntWalk.i64_in _ (by omega)]; rfl
    have hg : (l.map i64).getD k .any = i64 l[k] := by simp [List.getD_eq_getElem?_getD, hlt]
    simp only [go_sem, c1, hw, hg]
    refine ⟨fun hc => ?_, fun hc => ?_⟩
    · have e : idxI n l = (k : Int) := by
        unfold idxI
        rw [find_step hno hlt (by simp only [beq_iff_eq] at hc ⊢; exact hc.symm)]
      rw [e] at h
      exact ⟨⟨[], by simp⟩, .sc _, h⟩
    · refine ⟨b - 1, _, by omega, ?_, k + 1, by omega, fun j hj x hx => ?_, rfl⟩
      · repeat (first | exact leEnv_nil | refine leEnv_any _ ?_ | refine leEnv_same _ ?_ | refine leEnv_norm _ ?_)
      · by_cases e : j = k
        · subst e
          rw [List.getElem?_eq_getElem hlt] at hx
          cases hx
          simp only [beq_eq_false_iff_ne, ne_eq] at hc ⊢
          exact fun h => hc h.symm
        · exact hno j (by omega) x hx
  · obtain rfl : k = l.length := by omega
    have c1 : ((l.length : Int) < (l.length : Int)) = False := eq_false (by omega)
    have e : idxI n l = -1 := by unfold idxI; rw [find_end hno]
    rw [e] at h
    simp only [go_sem, c1]
    exact ⟨⟨[], by simp⟩, .sc _, h⟩
set_option maxHeartbeats 4000000 in
theorem indexT_c (m : AL.Mode) (t : ByteArray) (l : List ByteArray) (hl : l.length ≤ 1000000) (K : SV → St → Prop) (st : St) (h : K (i64 (idxT t l)) st) : ACalls Tryz.prog 47 [.slice m 1 (l.map str), str t] K st := by
  refine acalls_go_pure [] Tryz.func47 rfl Tryz.results47 Tryz.ntmps47 ?_
  simp only [go_sem]
  refine awp_rounds [] (fun b e s => ∃ k, k + b = l.length ∧ (∀ j, j < k → ∀ x, l[j]? = some x → (x.data.toList == t.data.toList) = false) ∧ e = [.slice m 1 (l.map str), str t, .any, .any, .any, .any, .any, i64 l.length, i64 k, .any, .any, .any, .any, .any, .any, .any, .any, .any, .any] ∧ s = st) (n := l.length) ?_ ⟨0, by omega, fun j hj => absurd hj (Nat.not_lt_zero _), rfl, rfl⟩ ?_
  · repeat (first | exact leEnv_nil | refine leEnv_any _ ?_ | refine leEnv_same _ ?_ | refine leEnv_norm _ ?_)
  rintro b e s ⟨k, hk, hno, rfl, rfl⟩
  by_cases hlt : k < l.length
  · have c1 : (k : Int) < (l.length : Int) := by omega
    have hw : IntKind.i64.wrap ((k : Int) + 1) = ((k + 1 : Nat) : Int) := by rw [IntWalk.i64_in _ (by omega)]; rfl
    have hg : (l.map str).getD k .any = str l[k] := by simp [List.getD_eq_getElem?_getD, hlt]
    simp only [go_sem, c1, hw, hg]
    refine ⟨fun hc => ?_, fun hc => ?_⟩
    · have e : idxT t l = (k : Int) := by
        unfold idxT
        rw [find_step hno hlt (by simp only [ByteArray.toList_eq, beq_iff_eq] at hc ⊢; exact hc.symm)]
      rw [e] at h
      exact ⟨⟨[], by simp⟩, .sc _, h⟩
    · refine ⟨b - 1, _, by omega, ?_, k + 1, by omega, fun j hj x hx => ?_, rfl⟩
      · repeat (first | exact leEnv_nil | refine leEnv_any _ ?_ | refine leEnv_same _ ?_ | refine leEnv_norm _ ?_)
      · by_cases e : j = k
        · subst e
          rw [List.getElem?_eq_getElem hlt] at hx
          cases hx
          simp only [ByteArray.toList_eq, beq_eq_false_iff_ne, ne_eq] at hc ⊢
          exact fun h => hc h.symm
        · exact hno j (by omega) x hx
  · obtain rfl : k = l.length := by omega
    have c1 : ((l.length : Int) < (l.length : Int)) = False := eq_false (by omega)
    have e : idxT t l = -1 := by unfold idxT; rw [find_end hno]
    rw [e] at h
    simp only [go_sem, c1]
    exact ⟨⟨[], by simp⟩, .sc _, h⟩
/-! place. -/
theorem int_stW {s : St} {L : WL} {g : GS} {v : GV} (h : AtW s L g v) (n : Int) :
    (s.set L.ti (.tok (v.vi + 1))).set L.p (.cells [.slice .full 0 [], .slice (.own L.ti (v.vi + 1)) 1 (g.ints.map i64 ++ [i64 n]), .slice (.own L.tt v.vt) 1 (g.texts.map str)]) = stW s L ⟨g.code, g.ints ++ [n], g.texts⟩ ⟨v.ver, v.vi + 1, v.vt⟩ := by
  have a := lt_of_get h.p
  have c := lt_of_get h.ti
  refine stW_of (by simp) (fun j hj => by rw [set_get_ne hj.2.1, set_get_ne hj.2.2.2.1]) h ⟨?_, ?_, ?_, ?_, ?_⟩
  · rw [set_get_ne h.nwp, set_get_ne h.nwi, h.w]; rfl
  · rw [set_get (by simpa using a)]; simp [pOb]
  · rw [set_get_ne h.npa.symm, set_get_ne h.nai, h.a]
  · rw [set_get_ne h.npi.symm, set_get c]
  · rw [set_get_ne h.npt.symm, set_get_ne h.nii.symm, h.tt]
theorem text_stW {s : St} {L : WL} {g : GS} {v : GV} (h : AtW s L g v) (t : ByteArray) :
    (s.set L.tt (.tok (v.vt + 1))).set L.p (.cells [.slice .full 0 [], .slice (.own L.ti v.vi) 1 (g.ints.map i64), .slice (.own L.tt (v.vt + 1)) 1 (g.texts.map str ++ [str t])]) = stW s L ⟨g.code, g.ints, g.texts ++ [t]⟩ ⟨v.ver, v.vi, v.vt + 1⟩ := by
  have a := lt_of_get h.p
  have c := lt_of_get h.tt
  refine stW_of (by simp) (fun j hj => by rw [set_get_ne hj.2.1, set_get_ne hj.2.2.2.2]) h ⟨?_, ?_, ?_, ?_, ?_⟩
  · rw [set_get_ne h.nwp, set_get_ne h.nwt, h.w]; rfl
  · rw [set_get (by simpa using a)]; simp [pOb]
  · rw [set_get_ne h.npa.symm, set_get_ne h.nat, h.a]
  · rw [set_get_ne h.npi.symm, set_get_ne h.nii, h.ti]
  · rw [set_get_ne h.npt.symm, set_get c]
def intV (n : Int) (g : GS) (v : GV) : GV := match g.ints.findIdx? (· == n) with | some _ => v | none => ⟨v.ver, v.vi + 1, v.vt⟩
set_option maxHeartbeats 4000000 in
theorem placeI_k {s : St} {L : WL} {g : GS} {v : GV} (hA : AtW s L g v) (n : Int) (hn : g.ints.length ≤ 100000) (K : SV → St → Prop) (h : K (i64 ((intG n g).1 : Nat)) (stW s L (intG n g).2 (intV n g v))) : ACalls Tryz.prog 18 [.ptr L.p 1, i64 n] K s := by
  obtain ⟨-, ⟨p1, p2, p3⟩, -, ⟨i1, i2⟩, -⟩ := hA.facts
  have npi := hA.npi
  have npi' := hA.npi.symm
  have happ := Tryz.app24 (n := g.ints.length + 1) (by omega)
  refine acalls_go_mod [] Tryz.func18 rfl Tryz.results18 Tryz.ntmps18 ?_
  unfold intG intV at h
  cases hf : g.ints.findIdx? (· == n) with
  | some k =>
    rw [hf] at h
    have e : idxI n g.ints = (k : Int) := by unfold idxI; rw [hf]
    have c1 : ((k : Int) < 0) = False := eq_false (by omega)
    simp only [go_sem, p1, p2, p3, pOb]
    refine indexI_c _ n g.ints (by omega) _ _ ?_
    simp only [go_sem, e, c1]
    have := fin_W hA (x := i64 (k : Int)) (ex := []) rfl (.sc _) h
    rw [stW_self hA, List.append_nil] at this
    exact this
  | none =>
    rw [hf] at h
    have e : idxI n g.ints = -1 := by unfold idxI; rw [hf]
    have c1 : ((-1 : Int) < 0) = True := eq_true (by omega)
    simp only [go_sem, p1, p2, p3, pOb]
    refine indexI_c _ n g.ints (by omega) _ _ ?_
    simp only [go_sem, e, c1, p1, p2, p3, i1, i2, npi, npi', pOb]
    refine ⟨happ, ?_⟩
    rw [int_stW hA]
    have := fin_W hA (x := i64 (g.ints.length : Int)) (ex := []) rfl (.sc _) h
    rw [List.append_nil] at this
    exact this
def textV (t : ByteArray) (g : GS) (v : GV) : GV := match g.texts.findIdx? (fun x => x.data.toList == t.data.toList) with | some _ => v | none => ⟨v.ver, v.vi, v.vt + 1⟩
set_option maxHeartbeats 4000000 in
theorem placeT_k {s : St} {L : WL} {g : GS} {v : GV} (hA : AtW s L g v) (t : ByteArray) (hn : g.texts.length ≤ 100000) (K : SV → St → Prop) (h : K (i64 ((textG t g).1 : Nat)) (stW s L (textG t g).2 (textV t g v))) : ACalls Tryz.prog 19 [.ptr L.p 2, str t] K s := by
  obtain ⟨-, ⟨p1, p2, p3⟩, -, -, ⟨i1, i2⟩⟩ := hA.facts
  have npi := hA.npt
  have npi' := hA.npt.symm
  have happ := Tryz.app36 (n := g.texts.length + 1) (by omega)
  refine acalls_go_mod [] Tryz.func19 rfl Tryz.results19 Tryz.ntmps19 ?_
  unfold textG textV at h
  cases hf : g.texts.findIdx? (fun x => x.data.toList == t.data.toList) with
  | some k =>
    rw [hf] at h
    have e : idxT t g.texts = (k : Int) := by unfold idxT; rw [hf]
    have c1 : ((k : Int) < 0) = False := eq_false (by omega)
    simp only [go_sem, p1, p2, p3, pOb]
    refine indexT_c _ t g.texts (by omega) _ _ ?_
    simp only [go_sem, e, c1]
    have := fin_W hA (x := i64 (k : Int)) (ex := []) rfl (.sc _) h
    rw [stW_self hA, List.append_nil] at this
    exact this
  | none =>
    rw [hf] at h
    have e : idxT t g.texts = -1 := by unfold idxT; rw [hf]
    have c1 : ((-1 : Int) < 0) = True := eq_true (by omega)
    simp only [go_sem, p1, p2, p3, pOb]
    refine indexT_c _ t g.texts (by omega) _ _ ?_
    simp only [go_sem, e, c1, p1, p2, p3, i1, i2, npi, npi', pOb]
    refine ⟨happ, ?_⟩
    rw [text_stW hA]
    have := fin_W hA (x := i64 (g.texts.length : Int)) (ex := []) rfl (.sc _) h
    rw [List.append_nil] at this
    exact this
end Go.Proofs
