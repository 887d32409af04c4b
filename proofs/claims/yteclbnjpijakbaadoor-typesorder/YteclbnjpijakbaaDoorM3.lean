/- The engine's state in memory; look. -/
import Derived.Test.YteclbnjpijakbaaDoorM1
import Derived.Test.YteclbnjpijakbaaDoorM2
import Derived.Test.YteclbnjpijakbaaDoorA8
set_option linter.unusedSimpArgs false
set_option linter.unusedVariables false
set_option maxRecDepth 8000
namespace Go.Proofs
open Go Go.AL

/-! Maps of numbers to what stands for something. -/
section
variable {α : Type} (f : α → SV)
def gmEs (m : List (Int × α)) : List (Value × SV) := m.map fun p => (.int .i64 p.1, f p.2)
def gmGet (m : List (Int × α)) (n : Int) : Option α := (m.find? fun p => p.1 == n).map (·.2)
def gmPut : List (Int × α) → Int → α → List (Int × α)
  | [], n, v => [(n, v)]
  | p :: r, n, v => if p.1 = n then (n, v) :: r else p :: gmPut r n v
theorem gm_int (m : List (Int × α)) : IntKeys (gmEs f m) := by
  intro q hq
  obtain ⟨p, _, rfl⟩ := List.mem_map.1 hq
  exact ⟨p.1, rfl⟩
theorem gmGet_put (m : List (Int × α)) (n : Int) (v : α) : gmGet (gmPut m n v) = fun k => if k = n then some v else gmGet m k := by
  funext k
  induction m with
  | nil =>
    unfold gmGet gmPut
    by_cases e : k = n
    · subst e; simp
    · have e' : ¬ n = k := fun h => e h.symm
      simp [e, e']
  | cons p r ih =>
    unfold gmPut
    by_cases e : p.1 = n
    · rw [if_pos e]
      unfold gmGet
      by_cases e2 : k = n
      · subst e2; simp
      · have e3 : (n == k) = false := by simpa using fun h : n = k => e2 h.symm
        have e4 : (p.1 == k) = false := by rw [e]; exact e3
        simp only [List.find?_cons, e3, e4, e2, if_false]
    · rw [if_neg e]
      unfold gmGet at ih ⊢
      by_cases e2 : p.1 = k
      · have e3 : ¬ k = n := by rw [← e2]; exact e
        simp [e2, e3]
      · have e4 : (p.1 == k) = false := by simp [e2]
        simp only [List.find?_cons, e4]
        exact ih
theorem gm_idx (m : List (Int × α)) (n : Int) : keyIdx (gmEs f m) (.int .i64 n) = m.findIdx? fun p => decide (n = p.1) := by
  unfold keyIdx gmEs
  rw [List.findIdx?_map]
  congr 1
theorem gm_put (m : List (Int × α)) (n : Int) (v : α) : mapPut (gmEs f m) (.int .i64 n) (f v) = gmEs f (gmPut m n v) := by
  induction m with
  | nil => rfl
  | cons p r ih =>
    unfold mapPut at ih ⊢
    rw [gm_idx] at ih ⊢
    rw [List.findIdx?_cons]
    by_cases e : n = p.1
    · simp [e, gmPut, gmEs]
    · have e' : ¬ p.1 = n := fun h => e h.symm
      simp only [e, decide_false, Bool.false_eq_true, if_false]
      unfold gmPut
      rw [if_neg e']
      cases hf : r.findIdx? (fun p => decide (n = p.1)) with
      | none =>
        rw [hf] at ih
        simp only [Option.map_none]
        show gmEs f (p :: r) ++ _ = (.int .i64 p.1, f p.2) :: gmEs f (gmPut r n v)
        rw [← ih]; rfl
      | some j =>
        rw [hf] at ih
        simp only [Option.map_some]
        show (gmEs f (p :: r)).set (j + 1) _ = (.int .i64 p.1, f p.2) :: gmEs f (gmPut r n v)
        rw [← ih]
        rfl
theorem gm_get (m : List (Int × α)) (n : Int) (z : SV) : getOr (gmEs f m) z n = (match gmGet m n with | some v => f v | none => z, (gmGet m n).isSome) := by
  unfold getOr
  rw [gm_idx]
  induction m with
  | nil => rfl
  | cons p r ih =>
    rw [List.findIdx?_cons]
    unfold gmGet at ih ⊢
    by_cases e : n = p.1
    · simp [e, gmEs]
    · have e' : (p.1 == n) = false := by simp; exact fun h => e h.symm
      simp only [e, decide_false, Bool.false_eq_true, if_false, List.find?_cons, e']
      cases hf : r.findIdx? (fun p => decide (n = p.1)) with
      | none => rw [hf] at ih; exact ih
      | some j =>
        rw [hf] at ih
        simp only [Option.map_some]
        exact ih
end

/-- The engine's state: its variables, and what they are bound to. -/
structure TSt (st : St) (id mid : Nat) (vs : Int) (M : List (Int × Ty)) : Prop where
  hid : st[id]? = some (.cells [.sc (.int .i64 vs), .mp mid])
  hm : st[mid]? = some (.map (gmEs tySV M))

theorem TSt.app {st : St} {id mid : Nat} {vs : Int} {M : List (Int × Ty)} (h : TSt st id mid vs M) (l : St) : TSt (st ++ l) id mid vs M :=
  ⟨(List.getElem?_append_left (lt_of_get h.hid)).trans h.hid, (List.getElem?_append_left (lt_of_get h.hm)).trans h.hm⟩

/-- What was there is as it was. -/
structure Gr (st s : St) : Prop where
  len : st.length ≤ s.length
  same : ∀ j, j < st.length → s[j]? = st[j]?
theorem Gr.refl (st : St) : Gr st st := ⟨Nat.le_refl _, fun _ _ => rfl⟩
theorem Gr.app {st s : St} (h : Gr st s) (l : St) : Gr st (s ++ l) :=
  ⟨by rw [List.length_append]; have := h.len; omega, fun j hj => by rw [List.getElem?_append_left (Nat.lt_of_lt_of_le hj h.len)]; exact h.same j hj⟩
theorem Gr.set {st s : St} (h : Gr st s) {j : Nat} (hj : st.length ≤ j) (o : Ob) : Gr st (s.set j o) :=
  ⟨by rw [List.length_set]; exact h.len, fun i hi => by rw [List.getElem?_set_ne (by omega)]; exact h.same i hi⟩
theorem Gr.ex {st s : St} (h : Gr st s) : ∃ ex, s = st ++ ex := by
  refine ⟨s.drop st.length, List.ext_getElem? fun i => ?_⟩
  by_cases c : i < st.length
  · rw [List.getElem?_append_left c]; exact h.same i c
  · rw [List.getElem?_append_right (by omega), List.getElem?_drop]
    congr 1; omega
theorem Gr.trans {a b c : St} (h : Gr a b) (k : Gr b c) : Gr a c := ⟨Nat.le_trans h.len k.len, fun j hj => (k.same j (Nat.lt_of_lt_of_le hj h.len)).trans (h.same j hj)⟩
theorem Gr.tst {st s : St} (h : Gr st s) {id mid : Nat} {vs : Int} {M : List (Int × Ty)} (hT : TSt st id mid vs M) : TSt s id mid vs M :=
  ⟨(h.same _ (lt_of_get hT.hid)).trans hT.hid, (h.same _ (lt_of_get hT.hm)).trans hT.hm⟩

set_option maxHeartbeats 4000000 in
theorem look_c {st : St} {id mid : Nat} {vs : Int} {M : List (Int × Ty)} (hT : TSt st id mid vs M) (hE : EndB (gmGet M)) (hG : Gb (gmGet M)) {t : Ty} (hg : gd t = true) (K : SV → St → Prop) (h : K (tySV (LK (gmGet M) t)) st) :
    ACalls Tryd.prog 47 [.ptr id 0, tySV t] K st := by
  refine acalls_go_pure [3] Tryd.func47 rfl Tryd.results47 Tryd.ntmps47 ?_
  obtain ⟨n, hn⟩ := hE.all hg
  have e0 : (st ++ [Ob.cells (tySV t).cells, Ob.cells zty])[st.length]? = some (.cells (tySV t).cells) := by simp
  have e1 : (st ++ [Ob.cells (tySV t).cells, Ob.cells zty])[st.length + 1]? = some (.cells zty) := get_app1 st _ _
  simp only [go_sem, reduceCtorEq, Nat.reduceAdd, Nat.reduceMul, Nat.reduceLeDiff, Nat.reduceLT, Int.reduceLE, Int.reduceLT, Int.reduceEq, Nat.reduceBEq, Nat.reduceEqDiff]
  refine awp_rounds [] (fun m e s => ∃ t' : Ty, En (gmGet M) m t' ∧ gd t' = true ∧ LK (gmGet M) t' = LK (gmGet M) t ∧ Gr st s ∧ s[st.length]? = some (.cells (tySV t').cells) ∧ s[st.length + 1]? = some (.cells zty) ∧
    e = [.ptr id 0, .any, .any, .ptr st.length 0, .ptr (st.length + 1) 0, .any, .any, .any, .any, .any, .any, .any, .any, .any, .any, .any, .any, .any, .any, .any, .any, .any, .any, .any, .any]) (n := n) ?_ ⟨t, hn, hg, rfl, (Gr.refl st).app _, e0, e1, rfl⟩ ?_
  · repeat (first | exact leEnv_nil | refine leEnv_any _ ?_ | refine leEnv_same _ ?_ | refine leEnv_norm _ ?_)
  clear e0 e1 hn
  rintro m e s ⟨t', hn, hg', hlk, hGr, e0, e1, rfl⟩
  have hT' := hGr.tst hT
  have f := cells_facts e0
  have g := cells_facts e1
  have hi := cells_facts hT'.hid
  have hm := map_facts hT'.hm
  have hpi := gm_int tySV M
  rw [cells_ty] at f
  have hzl : zty = [.sc (.int .i64 0), .sc (.string ⟨#[]⟩), .slice .full 0 []] := rfl
  have hzn : zty.length = 3 := rfl
  -- the end: the result is laid
  have fin : ∀ s2 : St, Gr st s2 → LK (gmGet M) t = t' → FinK st K (.agg [.sc (.int .i64 t'.v), .sc (.string t'.name), .slice .imm 3 (t'.args.map tySV)]) s2 := fun s2 hg2 e => by
    rw [e] at h
    have hid := ids_ty st.length t'
    rw [tySV_eq] at h hid
    exact ⟨hg2.ex, hid, h⟩
  by_cases hv : t'.v = 0
  · have b0 : (t'.v != 0) = false := by simp [hv]
    have hd : List.drop 3 zty = [] := rfl
    have hre : resCell Tryd.prog 25 (s.set (st.length + 1) (.cells [.sc (.int .i64 t'.v), .sc (.string t'.name), .slice .imm 3 (t'.args.map tySV)])) (.ptr (st.length + 1) 0) = some (.agg [.sc (.int .i64 t'.v), .sc (.string t'.name), .slice .imm 3 (t'.args.map tySV)]) := by
      have r := cells_facts (List.getElem?_set_self (a := .cells [.sc (.int .i64 t'.v), .sc (.string t'.name), .slice .imm 3 (t'.args.map tySV)]) (lt_of_get e1))
      simp only [go_sem, reduceCtorEq, Nat.reduceAdd, Nat.reduceMul, Nat.reduceLeDiff, Nat.reduceLT, Int.reduceLE, Int.reduceLT, Int.reduceEq, Nat.reduceBEq, Nat.reduceEqDiff, r.1, r.2.1, r.2.2]
    simp only [go_sem, reduceCtorEq, Nat.reduceAdd, Nat.reduceMul, Nat.reduceLeDiff, Nat.reduceLT, Int.reduceLE, Int.reduceLT, Int.reduceEq, Nat.reduceBEq, Nat.reduceEqDiff, f.1, f.2.1, f.2.2, b0, g.1, g.2.1, g.2.2, hzn, hd, hre]
    exact fin _ (hGr.set (by omega) _) (by rw [← hlk, LK_con hE hg' hv])
  · have b0 : (t'.v != 0) = true := by simp [hv]
    have hmg : ∀ s2 : St, s2[mid]? = some (.map (gmEs tySV M)) → mapGet Tryd.prog 58 s2 (.mp mid) (.sc (.int .i64 t'.v)) = some (match gmGet M t'.v with | some v => tySV v | none => .agg [.sc (.int .i64 0), .sc (.string ⟨#[]⟩), .slice .full 0 []], (gmGet M t'.v).isSome) := fun s2 h2 => by
      rw [mapGet_int Tryd.amap58 Tryd.zeroSV25 (map_facts h2).2 hpi, gm_get]
      cases gmGet M t'.v <;> rfl
    have hmg0 := hmg s hT'.hm
    obtain ⟨Rr, hRr⟩ : ∃ Rr : St → Prop, Rr = fun s => s[id]? = some (.cells [.sc (.int .i64 vs), .mp mid]) ∧ s[mid]? = some (.map (gmEs tySV M)) ∧ s[st.length]? = some (.cells (tySV t').cells) := ⟨_, rfl⟩
    have hRf : ∀ s2, Rr s2 → (inS s2 id = True ∧ isObj s2 id = True ∧ objAt s2 id = [.sc (.int .i64 vs), .mp mid]) ∧ s2[mid]? = some (.map (gmEs tySV M)) ∧ (inS s2 st.length = True ∧ isObj s2 st.length = True ∧ objAt s2 st.length = [.sc (.int .i64 t'.v), .sc (.string t'.name), .slice .imm 3 (t'.args.map tySV)]) := fun s2 h2 => by
      rw [hRr] at h2
      have := cells_facts h2.2.2
      rw [cells_ty] at this
      exact ⟨cells_facts h2.1, h2.2.1, this⟩
    have hR0 : Rr s := by rw [hRr]; exact ⟨hT'.hid, hT'.hm, e0⟩
    have hRa : ∀ o, Rr (s ++ [o]) := fun o => by
      rw [hRr]
      exact ⟨(List.getElem?_append_left (lt_of_get hT'.hid)).trans hT'.hid, (List.getElem?_append_left (lt_of_get hT'.hm)).trans hT'.hm, (List.getElem?_append_left (lt_of_get e0)).trans e0⟩
    have hlt1 := lt_of_get e1
    have hlts := lt_of_get e0
    have s9f : ∀ Z : List SV, Rr (s ++ [Ob.cells Z]) ∧ Gr st (s ++ [Ob.cells Z]) ∧ (s ++ [Ob.cells Z])[st.length + 1]? = some (.cells zty) ∧ (s ++ [Ob.cells Z])[s.length]? = some (.cells Z) := fun Z =>
      ⟨hRa _, hGr.app _, (List.getElem?_append_left hlt1).trans e1, by simp⟩
    have resAt : ∀ s3 : St, s3[st.length + 1]? = some (.cells [.sc (.int .i64 t'.v), .sc (.string t'.name), .slice .imm 3 (t'.args.map tySV)]) → resCell Tryd.prog 25 s3 (.ptr (st.length + 1) 0) = some (.agg [.sc (.int .i64 t'.v), .sc (.string t'.name), .slice .imm 3 (t'.args.map tySV)]) := fun s3 h3 => by
      have r := cells_facts h3
      simp only [go_sem, reduceCtorEq, Nat.reduceAdd, Nat.reduceMul, Nat.reduceLeDiff, Nat.reduceLT, Int.reduceLE, Int.reduceLT, Int.reduceEq, Nat.reduceBEq, Nat.reduceEqDiff, r.1, r.2.1, r.2.2]
    have nf : inS (s ++ [Ob.cells [.sc (.int .i64 0), .sc (.string ⟨#[]⟩), .slice .full 0 []]]) s.length = True ∧ isObj (s ++ [Ob.cells [.sc (.int .i64 0), .sc (.string ⟨#[]⟩), .slice .full 0 []]]) s.length = True ∧ objAt (s ++ [Ob.cells [.sc (.int .i64 0), .sc (.string ⟨#[]⟩), .slice .full 0 []]]) s.length = [.sc (.int .i64 0), .sc (.string ⟨#[]⟩), .slice .full 0 []] := cells_facts (by simp)
    have hzd : List.drop 3 zty = [] := rfl
    cases hb : gmGet M t'.v with
    | none =>
      rw [hb] at hmg0 hmg
      simp only [go_sem, reduceCtorEq, Nat.reduceAdd, Nat.reduceMul, Nat.reduceLeDiff, Nat.reduceLT, Int.reduceLE, Int.reduceLT, Int.reduceEq, Nat.reduceBEq, Nat.reduceEqDiff, f.1, f.2.1, f.2.2, b0]
      refine awp_drawT [] [2, 2, 2, 2, 2, 2, 2, 2, 2, 2, 3, 1, 2] Rr Tryd.mixed rfl hR0 ?_
      simp only [go_sem, reduceCtorEq, Nat.reduceAdd, Nat.reduceMul, Nat.reduceLeDiff, Nat.reduceLT, Int.reduceLE, Int.reduceLT, Int.reduceEq, Nat.reduceBEq, Nat.reduceEqDiff, drawU_n, drawU_0, drawU_1, drawU_2, drawU_3, isStore_s, f.1, f.2.1, f.2.2, hi.1, hi.2.1, hi.2.2, hmg0]
      refine ⟨fun s2 h2 => ?_, fun s2 h2 => ?_, fun s2 h2 => ?_, _, _, ⟨rfl, rfl⟩, hRa _, ?_⟩
      · obtain ⟨a1, a2, a3⟩ := hRf s2 h2
        simp only [go_sem, reduceCtorEq, Nat.reduceAdd, Nat.reduceMul, Nat.reduceLeDiff, Nat.reduceLT, Int.reduceLE, Int.reduceLT, Int.reduceEq, Nat.reduceBEq, Nat.reduceEqDiff, a1.1, a1.2.1, a1.2.2]
      · obtain ⟨a1, a2, a3⟩ := hRf s2 h2
        simp only [go_sem, reduceCtorEq, Nat.reduceAdd, Nat.reduceMul, Nat.reduceLeDiff, Nat.reduceLT, Int.reduceLE, Int.reduceLT, Int.reduceEq, Nat.reduceBEq, Nat.reduceEqDiff, a3.1, a3.2.1, a3.2.2]
      · obtain ⟨a1, a2, a3⟩ := hRf s2 h2
        simp only [go_sem, reduceCtorEq, Nat.reduceAdd, Nat.reduceMul, Nat.reduceLeDiff, Nat.reduceLT, Int.reduceLE, Int.reduceLT, Int.reduceEq, Nat.reduceBEq, Nat.reduceEqDiff, hmg s2 a2]
      obtain ⟨z1, z2, z3, z4⟩ := s9f [.sc (.int .i64 0), .sc (.string ⟨#[]⟩), .slice .full 0 []]
      have z5 := (hRf _ z1).2.2
      have z6 := cells_facts z3
      have z7 := resAt ((s ++ [Ob.cells [.sc (.int .i64 0), .sc (.string ⟨#[]⟩), .slice .full 0 []]]).set (st.length + 1) (.cells [.sc (.int .i64 t'.v), .sc (.string t'.name), .slice .imm 3 (t'.args.map tySV)])) (List.getElem?_set_self (lt_of_get z3))
      simp only [go_sem, reduceCtorEq, Nat.reduceAdd, Nat.reduceMul, Nat.reduceLeDiff, Nat.reduceLT, Int.reduceLE, Int.reduceLT, Int.reduceEq, Nat.reduceBEq, Nat.reduceEqDiff, nf.1, nf.2.1, nf.2.2, z5.1, z5.2.1, z5.2.2, z6.1, z6.2.1, z6.2.2, hzn, hzd, z7]
      exact ⟨z1, fin _ (z2.set (by omega) _) (by rw [← hlk, LK_free hv hb])⟩
    | some b =>
      rw [hb] at hmg0 hmg
      have hmg0 : mapGet Tryd.prog 58 s (.mp mid) (.sc (.int .i64 t'.v)) = some (tySV b, true) := hmg0
      have hmg : ∀ s2 : St, s2[mid]? = some (.map (gmEs tySV M)) → mapGet Tryd.prog 58 s2 (.mp mid) (.sc (.int .i64 t'.v)) = some (tySV b, true) := hmg
      have hgb := hG _ _ hb
      obtain ⟨m0, rfl⟩ : ∃ m0, m = m0 + 1 := by
        cases m with
        | zero => exact hn.elim
        | succ m0 => exact ⟨m0, rfl⟩
      rw [en_bound hv hb] at hn
      simp only [go_sem, reduceCtorEq, Nat.reduceAdd, Nat.reduceMul, Nat.reduceLeDiff, Nat.reduceLT, Int.reduceLE, Int.reduceLT, Int.reduceEq, Nat.reduceBEq, Nat.reduceEqDiff, f.1, f.2.1, f.2.2, b0]
      refine awp_drawT [] [2, 2, 2, 2, 2, 2, 2, 2, 2, 2, 3, 1, 2] Rr Tryd.mixed rfl hR0 ?_
      simp only [go_sem, reduceCtorEq, Nat.reduceAdd, Nat.reduceMul, Nat.reduceLeDiff, Nat.reduceLT, Int.reduceLE, Int.reduceLT, Int.reduceEq, Nat.reduceBEq, Nat.reduceEqDiff, drawU_n, drawU_0, drawU_1, drawU_2, drawU_3, isStore_s, f.1, f.2.1, f.2.2, hi.1, hi.2.1, hi.2.2, hmg0]
      refine ⟨fun s2 h2 => ?_, fun s2 h2 => ?_, fun s2 h2 => ?_, _, _, ⟨rfl, rfl⟩, hRa _, ?_⟩
      · obtain ⟨a1, a2, a3⟩ := hRf s2 h2
        simp only [go_sem, reduceCtorEq, Nat.reduceAdd, Nat.reduceMul, Nat.reduceLeDiff, Nat.reduceLT, Int.reduceLE, Int.reduceLT, Int.reduceEq, Nat.reduceBEq, Nat.reduceEqDiff, a1.1, a1.2.1, a1.2.2]
      · obtain ⟨a1, a2, a3⟩ := hRf s2 h2
        simp only [go_sem, reduceCtorEq, Nat.reduceAdd, Nat.reduceMul, Nat.reduceLeDiff, Nat.reduceLT, Int.reduceLE, Int.reduceLT, Int.reduceEq, Nat.reduceBEq, Nat.reduceEqDiff, a3.1, a3.2.1, a3.2.2]
      · obtain ⟨a1, a2, a3⟩ := hRf s2 h2
        simp only [go_sem, reduceCtorEq, Nat.reduceAdd, Nat.reduceMul, Nat.reduceLeDiff, Nat.reduceLT, Int.reduceLE, Int.reduceLT, Int.reduceEq, Nat.reduceBEq, Nat.reduceEqDiff, hmg s2 a2]
      obtain ⟨z1, z2, z3, z4⟩ := s9f (tySV b).cells
      have z5 := (hRf _ z1).2.2
      have z6 := cells_facts z3
      have z8 := cells_facts z4
      have hdl : List.drop (tySV b).cells.length [SV.sc (.int .i64 0), .sc (.string ⟨#[]⟩), .slice .full 0 []] = [] := by rw [ty_len]; rfl
      have hdl3 : List.drop 3 [SV.sc (.int .i64 0), .sc (.string ⟨#[]⟩), .slice .full 0 []] = [] := rfl
      simp only [go_sem, reduceCtorEq, Nat.reduceAdd, Nat.reduceMul, Nat.reduceLeDiff, Nat.reduceLT, Int.reduceLE, Int.reduceLT, Int.reduceEq, Nat.reduceBEq, Nat.reduceEqDiff, nf.1, nf.2.1, nf.2.2, z5.1, z5.2.1, z5.2.2, z6.1, z6.2.1, z6.2.2, z8.1, z8.2.1, z8.2.2, hzn, hzd, hdl, hdl3, List.append_nil, List.length_cons, List.length_nil]
      refine ⟨z1, m0, _, by omega, ?_, b, hn, hgb, by rw [← hlk, LK_bound hE hv hb hgb], z2.set (Nat.le_refl _) _, List.getElem?_set_self (by rw [List.length_append]; omega), (List.getElem?_set_ne (by omega)).trans z3, rfl⟩
      repeat (first | exact leEnv_nil | refine leEnv_any _ ?_ | refine leEnv_same _ ?_ | refine leEnv_norm _ ?_)

end Go.Proofs
set_option linter.unusedSimpArgs false
set_option linter.unusedVariables false
set_option maxRecDepth 8000
namespace Go.Proofs
open Go Go.AL

/-- What a type is, by its head. -/
theorem head_tree {B : Bd} (h : EndB B) (hG : Gb B) {t : Ty} (hg : gd t = true) : AP B t = .mk (LK B t).v (LK B t).name ((LK B t).args.map (AP B)) := by
  have hl := LK_spec h hG hg
  rw [← hl.2.1]
  by_cases hv : (LK B t).v = 0
  · rw [AP_con h hl.1 hv, hv]
  · rw [AP_free hl.1 hv (hl.2.2 hv)]
    have := gd_var hl.1 hv
    have ha : (LK B t).args = [] := by rw [this]; rfl
    rw [ha]
    have hn : (LK B t).name = ⟨#[]⟩ := by rw [this]; rfl
    conv => lhs; rw [this]
    rw [hn]; rfl

theorem head_args {B : Bd} (h : EndB B) (hG : Gb B) {t : Ty} (hg : gd t = true) : ∀ a ∈ (LK B t).args, gd a = true := by
  have hl := LK_spec h hG hg
  by_cases hv : (LK B t).v = 0
  · exact gd_con hl.1 hv
  · rw [gd_var hl.1 hv]; exact fun a ha => by cases ha

set_option maxHeartbeats 4000000 in
theorem size_c {id mid : Nat} {vs : Int} {M : List (Int × Ty)} (hE : EndB (gmGet M)) (hG : Gb (gmGet M)) : ∀ (left : Nat), left ≤ 100 → ∀ (t : Ty), gd t = true → ∀ (K : SV → St → Prop) (st : St), TSt st id mid vs M →
    (∀ c : Int, 1 ≤ c → Coun (left + 1) (AP (gmGet M) t) c → K (.sc (.int .i64 c)) st) → ACalls Tryd.prog 46 [.ptr id 0, tySV t, .sc (.int .i64 left)] K st := by
  intro left
  induction left using Nat.strongRecOn with
  | _ left ih =>
    intro hle t hg K st hT h
    refine acalls_go_pure [4] Tryd.func46 rfl Tryd.results46 Tryd.ntmps46 ?_
    have hlk := @look_c (st ++ [Ob.cells (tySV t).cells]) id mid vs M (hT.app _) hE hG t hg
    have htree := head_tree hE hG hg
    have hargs := head_args hE hG hg
    obtain ⟨u, hu⟩ : ∃ u, u = LK (gmGet M) t := ⟨_, rfl⟩
    rw [← hu] at hlk htree hargs
    obtain ⟨T, hTd⟩ : ∃ T, T = AP (gmGet M) t := ⟨_, rfl⟩
    rw [← hTd] at htree h
    have hTa : T.args = u.args.map (AP (gmGet M)) := by rw [htree]; rfl
    have hTl : T.args.length = u.args.length := by rw [hTa, List.length_map]
    have e0 : (st ++ [Ob.cells (tySV t).cells])[st.length]? = some (.cells (tySV t).cells) := by simp
    have f := cells_facts e0
    have hdl : List.drop 3 (tySV t).cells = [] := List.drop_of_length_le (by rw [ty_len]; exact Nat.le_refl _)
    have hnt := nd_eq T
    have hdt := dp_eq T
    simp only [go_sem, reduceCtorEq, Nat.reduceAdd, Nat.reduceMul, Nat.reduceLeDiff, Nat.reduceLT, Int.reduceLE, Int.reduceLT, Int.reduceEq, Nat.reduceBEq, Nat.reduceEqDiff]
    refine hlk _ ?_
    simp only [go_sem, reduceCtorEq, Nat.reduceAdd, Nat.reduceMul, Nat.reduceLeDiff, Nat.reduceLT, Int.reduceLE, Int.reduceLT, Int.reduceEq, Nat.reduceBEq, Nat.reduceEqDiff, f.1, f.2.1, f.2.2, hdl, List.append_nil, ty_len]
    refine awp_rounds [] (fun m e s => ∃ (k : Nat) (c : Int), m + k = u.args.length ∧ Gr st s ∧ (k : Int) + 1 ≤ c ∧ c ≤ 201 * (left + 2) ∧ (c ≤ 200 → c = 1 + (ndL (T.args.take k) : Int) ∧ dpL (T.args.take k) ≤ left) ∧ (200 < c → ¬ (nd T ≤ 200 ∧ dp T ≤ left + 1)) ∧
      e = [.ptr id 0, .any, .sc (.int .i64 left), .any, .any, .any, .any, .sc (.int .i64 c), .any, .any, .any, .any, .any, .any, .slice .imm 3 (u.args.map tySV), .sc (.int .i64 u.args.length), .sc (.int .i64 k), .any, .any, .any, .any, .any, .any, .any, .any, .any, .any, .any, .any, .any, .any, .any, .any, .any, .any]) (n := u.args.length) ?_ ⟨0, 1, by omega, (Gr.refl st).app _, by omega, by omega, fun _ => ⟨rfl, Nat.zero_le _⟩, fun h => absurd h (by omega), rfl⟩ ?_
    · repeat (first | exact leEnv_nil | refine leEnv_any _ ?_ | refine leEnv_same _ ?_ | refine leEnv_norm _ ?_)
    rintro m e s ⟨k, c, hmk, hGr, hkc, hcb, hc1, hc2, rfl⟩
    by_cases hlt : k < u.args.length
    · have c1 : (k : Int) < (u.args.length : Int) := by omega
      have c0 : (0 : Int) ≤ (k : Int) := by omega
      have hltT : k < T.args.length := by omega
      obtain ⟨a, had⟩ : ∃ a, a = u.args.getD k default := ⟨_, rfl⟩
      have ham : a ∈ u.args := by rw [had]; simp [List.getD_eq_getElem?_getD, hlt]
      have hga := hargs a ham
      have hTk : T.args.getD k default = AP (gmGet M) a := by
        rw [hTa, had]; simp [List.getD_eq_getElem?_getD, hlt]
      have hmem : T.args.getD k default ∈ T.args := by simp [List.getD_eq_getElem?_getD, hltT]
      have hn1 : ndL (T.args.take (k + 1)) = ndL (T.args.take k) + nd (T.args.getD k default) := by rw [take_snocT _ hltT, ndL_app]; simp [ndL]
      have hd1 : dpL (T.args.take (k + 1)) = max (dpL (T.args.take k)) (dp (T.args.getD k default)) := by rw [take_snocT _ hltT, dpL_app]; simp [dpL]
      have hsub : ndL (T.args.take (k + 1)) ≤ ndL T.args := by
        conv => rhs; rw [← List.take_append_drop (k + 1) T.args]
        rw [ndL_app]; omega
      have hdm := dp_mem hmem
      have hps := nd_pos (T.args.getD k default)
      have hpd := dp_pos (T.args.getD k default)
      have hgk : (u.args.map tySV).getD k .any = tySV a := by rw [had]; exact getD_mapT _ hlt
      by_cases hl0 : left = 0
      · subst hl0
        have b0 : (((0 : Nat) : Int) == 0) = true := rfl
        simp only [go_sem, reduceCtorEq, Nat.reduceAdd, Nat.reduceMul, Nat.reduceLeDiff, Nat.reduceLT, Int.reduceLE, Int.reduceLT, Int.reduceEq, Nat.reduceBEq, Nat.reduceEqDiff, c1, c0, hgk, b0]
        refine ⟨(hGr.app _).ex, .sc _, h 201 (by omega) ⟨by omega, by omega, ?_⟩⟩
        rw [if_neg (by omega)]
        omega
      · obtain ⟨l', rfl⟩ : ∃ l', left = l' + 1 := ⟨left - 1, by omega⟩
        have b0 : (((l' + 1 : Nat) : Int) == 0) = false := by simp; omega
        by_cases hc : c ≤ 200
        · have b1 : ((200 : Int) < c) = False := eq_false (by omega)
          obtain ⟨q1, q2⟩ := hc1 hc
          have hw2 : IntKind.i64.wrap (((l' + 1 : Nat) : Int) - 1) = (l' : Int) := by rw [IntWalk.i64_in _ (by omega)]; omega
          have hw : IntKind.i64.wrap ((k : Int) + 1) = ((k + 1 : Nat) : Int) := by rw [IntWalk.i64_in _ (by omega)]; rfl
          obtain ⟨s1, hs1⟩ : ∃ s1, s1 = s ++ [Ob.cells (tySV a).cells] := ⟨_, rfl⟩
          have hse := hs1.symm
          have hG1 : Gr st s1 := by rw [hs1]; exact hGr.app _
          have ea : s1[s.length]? = some (.cells (tySV a).cells) := by rw [hs1]; simp
          have fa := cells_facts ea
          have hrec := fun K h => ih l' (by omega) (by omega) a hga K s1 (hG1.tst hT) h
          simp only [go_sem, reduceCtorEq, Nat.reduceAdd, Nat.reduceMul, Nat.reduceLeDiff, Nat.reduceLT, Int.reduceLE, Int.reduceLT, Int.reduceEq, Nat.reduceBEq, Nat.reduceEqDiff, c1, c0, hgk, b0, b1, hw2, hse, fa.1, fa.2.1, fa.2.2]
          refine hrec _ fun x hx1 hx => ?_
          obtain ⟨x1, x2, x3⟩ := hx
          have hwx : IntKind.i64.wrap (c + x) = c + x := IntWalk.i64_in _ (by omega)
          rw [← hTk] at x3
          simp only [go_sem, reduceCtorEq, Nat.reduceAdd, Nat.reduceMul, Nat.reduceLeDiff, Nat.reduceLT, Int.reduceLE, Int.reduceLT, Int.reduceEq, Nat.reduceBEq, Nat.reduceEqDiff, hwx, hw]
          refine ⟨m - 1, _, by omega, ?_, k + 1, c + x, by omega, hG1, by omega, by omega, fun hcx => ?_, fun hcx => ?_, rfl⟩
          · repeat (first | exact leEnv_nil | refine leEnv_any _ ?_ | refine leEnv_same _ ?_ | refine leEnv_norm _ ?_)
          · rw [if_pos (by omega)] at x3
            omega
          · intro ⟨y1, y2⟩
            split at x3 <;> omega
        · have b1 : (200 : Int) < c := by omega
          simp only [go_sem, reduceCtorEq, Nat.reduceAdd, Nat.reduceMul, Nat.reduceLeDiff, Nat.reduceLT, Int.reduceLE, Int.reduceLT, Int.reduceEq, Nat.reduceBEq, Nat.reduceEqDiff, c1, c0, hgk, b0, b1]
          refine ⟨(hGr.app _).ex, .sc _, h 201 (by omega) ⟨by omega, by omega, ?_⟩⟩
          rw [if_neg (by omega)]
          exact hc2 (by omega)
    · obtain rfl : k = u.args.length := by omega
      simp only [go_sem, reduceCtorEq, Nat.reduceAdd, Nat.reduceMul, Nat.reduceLeDiff, Nat.reduceLT, Int.reduceLE, Int.reduceLT, Int.reduceEq, Nat.reduceBEq, Nat.reduceEqDiff, Int.lt_irrefl]
      refine ⟨hGr.ex, .sc _, h c (by omega) ⟨by omega, by omega, ?_⟩⟩
      rw [← hTl, List.take_length] at hc1
      split
      · rename_i hc
        obtain ⟨q1, q2⟩ := hc1 hc
        omega
      · exact hc2 (by omega)

/-- May what a type is be? -/
def fitB (T : Ty) : Bool := decide (nd T ≤ 200) && decide (dp T ≤ 40)

theorem may_c {st : St} {id mid : Nat} {vs : Int} {M : List (Int × Ty)} (hT : TSt st id mid vs M) (hE : EndB (gmGet M)) (hG : Gb (gmGet M)) {t : Ty} (hg : gd t = true) (K : SV → St → Prop) (h : K (.sc (.bool (fitB (AP (gmGet M) t)))) st) :
    ACalls Tryd.prog 30 [.ptr id 0, tySV t] K st := by
  refine acalls_go_pure [] Tryd.func30 rfl Tryd.results30 Tryd.ntmps30 ?_
  have hs := @size_c id mid vs M hE hG 39 (by omega) t hg
  have hs2 := fun K h => hs K st hT h
  simp only [go_sem, reduceCtorEq, Nat.reduceAdd, Nat.reduceMul, Nat.reduceLeDiff, Nat.reduceLT, Int.reduceLE, Int.reduceLT, Int.reduceEq, Nat.reduceBEq, Nat.reduceEqDiff]
  refine hs2 _ fun c h1 hc => ?_
  obtain ⟨c1, c2, c3⟩ := hc
  have hb : fitB (AP (gmGet M) t) = decide (c ≤ 200) := by
    unfold fitB
    rw [Bool.eq_iff_iff, Bool.and_eq_true, decide_eq_true_eq, decide_eq_true_eq, decide_eq_true_eq]
    split at c3
    · constructor
      · intro _; assumption
      · intro _; omega
    · constructor
      · intro q; exact absurd q c3
      · intro q; contradiction
  rw [hb] at h
  simp only [go_sem, reduceCtorEq, Nat.reduceAdd, Nat.reduceMul, Nat.reduceLeDiff, Nat.reduceLT, Int.reduceLE, Int.reduceLT, Int.reduceEq, Nat.reduceBEq, Nat.reduceEqDiff]
  exact fin_sc h

end Go.Proofs
set_option linter.unusedSimpArgs false
set_option linter.unusedVariables false
set_option maxRecDepth 8000
namespace Go.Proofs
open Go Go.AL

set_option maxHeartbeats 4000000 in
theorem apply_c {id mid : Nat} {vs : Int} {M : List (Int × Ty)} (hE : EndB (gmGet M)) (hG : Gb (gmGet M)) : ∀ (d : Nat), ∀ (t : Ty), gd t = true → dp (AP (gmGet M) t) ≤ d → nd (AP (gmGet M) t) ≤ 100000 → ∀ (K : SV → St → Prop) (st : St), TSt st id mid vs M →
    K (tySV (AP (gmGet M) t)) st → ACalls Tryd.prog 31 [.ptr id 0, tySV t] K st := by
  intro d
  induction d with
  | zero => intro t hg hd; have := dp_pos (AP (gmGet M) t); omega
  | succ d ih =>
    intro t hg hd hnb K st hT h
    refine acalls_le ?_
    refine acalls_go_pure [3] Tryd.func31 rfl Tryd.results31 Tryd.ntmps31 ?_
    have hlk := @look_c (st ++ [Ob.cells (tySV t).cells, Ob.cells zty]) id mid vs M (hT.app _) hE hG t hg
    have htree := head_tree hE hG hg
    have hargs := head_args hE hG hg
    obtain ⟨u, hu⟩ : ∃ u, u = LK (gmGet M) t := ⟨_, rfl⟩
    rw [← hu] at hlk htree hargs
    obtain ⟨T, hTd⟩ : ∃ T, T = AP (gmGet M) t := ⟨_, rfl⟩
    rw [← hTd] at htree h hd hnb
    have hTa : T.args = u.args.map (AP (gmGet M)) := by rw [htree]; rfl
    have e0 : (st ++ [Ob.cells (tySV t).cells, Ob.cells zty])[st.length]? = some (.cells (tySV t).cells) := by simp
    have e1 : (st ++ [Ob.cells (tySV t).cells, Ob.cells zty])[st.length + 1]? = some (.cells zty) := get_app1 st _ _
    have f := cells_facts e0
    have hdl : List.drop 3 (tySV t).cells = [] := List.drop_of_length_le (by rw [ty_len]; exact Nat.le_refl _)
    have hdt := dp_eq T
    have hnt := nd_eq T
    have hal : u.args.length ≤ 100000 := by
      have hl : ∀ l : List Ty, l.length ≤ ndL l := by
        intro l
        induction l with
        | nil => exact Nat.le_refl _
        | cons a r ih => rw [ndL, List.length_cons]; have := nd_pos a; omega
      have := hl T.args
      rw [hTa, List.length_map] at this
      rw [hTa] at hnt
      omega
    simp only [go_sem, reduceCtorEq, Nat.reduceAdd, Nat.reduceMul, Nat.reduceLeDiff, Nat.reduceLT, Int.reduceLE, Int.reduceLT, Int.reduceEq, Nat.reduceBEq, Nat.reduceEqDiff]
    refine hlk _ ?_
    have hcu := cells_ty u
    simp only [go_sem, reduceCtorEq, Nat.reduceAdd, Nat.reduceMul, Nat.reduceLeDiff, Nat.reduceLT, Int.reduceLE, Int.reduceLT, Int.reduceEq, Nat.reduceBEq, Nat.reduceEqDiff, f.1, f.2.1, f.2.2, hdl, List.append_nil, ty_len, hcu]
    have hg2 : ∀ a b c : Ob, (st ++ [a, b, c])[st.length + 2]? = some c := fun a b c => by simp
    refine awp_ownC (st.length + 2) 2 3 0 (hg2 _ _ _) (by simp) rfl ?_
    simp only [go_sem, reduceCtorEq, Nat.reduceAdd, Nat.reduceMul, Nat.reduceLeDiff, Nat.reduceLT, Int.reduceLE, Int.reduceLT, Int.reduceEq, Nat.reduceBEq, Nat.reduceEqDiff]
    refine awp_rounds [] (fun m e s => ∃ (k : Nat), m + k = u.args.length ∧ Gr st s ∧ s[st.length + 1]? = some (.cells zty) ∧ s[st.length + 3]? = some (.tok k) ∧
      s[st.length + 2]? = some (.cells [.sc (.int .i64 u.v), .sc (.string u.name), .slice (.own (st.length + 3) k) 3 (((u.args.take k).map (AP (gmGet M))).map tySV)]) ∧
      e = [.ptr id 0, .any, .any, .any, .ptr (st.length + 1) 0, .ptr (st.length + 2) 0, .any, .any, .any, .any, .any, .any, .any, .any, .any, .any, .any, .slice .imm 3 (u.args.map tySV), .sc (.int .i64 u.args.length), .sc (.int .i64 k), .any, .any, .any, .any, .any, .any, .any, .any, .any, .any, .any, .any, .any]) (n := u.args.length) ?_ ⟨0, by omega, (Gr.refl st).app _, by simp, by simp, by simp, rfl⟩ ?_
    · repeat (first | exact leEnv_nil | refine leEnv_any _ ?_ | refine leEnv_same _ ?_ | refine leEnv_norm _ ?_)
    rintro m e s ⟨k, hmk, hGr, z1, z3, z2, rfl⟩
    by_cases hlt : k < u.args.length
    · have c1 : (k : Int) < (u.args.length : Int) := by omega
      have c0 : (0 : Int) ≤ (k : Int) := by omega
      obtain ⟨a, had⟩ : ∃ a, a = u.args.getD k default := ⟨_, rfl⟩
      have hgk : (u.args.map tySV).getD k .any = tySV a := by rw [had]; exact getD_mapT _ hlt
      have ham : a ∈ u.args := by rw [had]; simp [List.getD_eq_getElem?_getD, hlt]
      have hga := hargs a ham
      have hmem : AP (gmGet M) a ∈ T.args := by rw [hTa]; exact List.mem_map_of_mem ham
      have hdm := dp_mem hmem
      have hnm : nd (AP (gmGet M) a) ≤ ndL T.args := nd_mem hmem
      have hw : IntKind.i64.wrap ((k : Int) + 1) = ((k + 1 : Nat) : Int) := by rw [IntWalk.i64_in _ (by omega)]; rfl
      have hts : (((u.args.take (k + 1)).map (AP (gmGet M))).map tySV) = (((u.args.take k).map (AP (gmGet M))).map tySV) ++ [tySV (AP (gmGet M) a)] := by
        rw [take_snocT _ hlt, ← had]; simp
      have hlen : (u.args.take k).length + 1 ≤ 1000000 := by rw [List.length_take]; omega
      obtain ⟨s1, hs1⟩ : ∃ s1, s1 = s ++ [Ob.cells (tySV a).cells] := ⟨_, rfl⟩
      have hse := hs1.symm
      have hG1 : Gr st s1 := by rw [hs1]; exact hGr.app _
      have ea : s1[s.length]? = some (.cells (tySV a).cells) := by rw [hs1]; simp
      have y1 : s1[st.length + 1]? = some (.cells zty) := by rw [hs1]; exact (List.getElem?_append_left (lt_of_get z1)).trans z1
      have y2 := (List.getElem?_append_left (l₂ := [Ob.cells (tySV a).cells]) (lt_of_get z2)).trans z2
      have y3 := (List.getElem?_append_left (l₂ := [Ob.cells (tySV a).cells]) (lt_of_get z3)).trans z3
      rw [← hs1] at y2 y3
      have fa := cells_facts ea
      have f2 := cells_facts y2
      have ft := fun v' => tokAt_eq (v' := v') y3
      have w2 : (s1.set (st.length + 3) (.tok (k + 1)))[st.length + 2]? = some (.cells [.sc (.int .i64 u.v), .sc (.string u.name), .slice (.own (st.length + 3) k) 3 (((u.args.take k).map (AP (gmGet M))).map tySV)]) := by rw [List.getElem?_set_ne (by omega)]; exact y2
      have g2 := cells_facts w2
      have hrec := fun K h => ih a hga (by omega) (by omega) K s1 (hG1.tst hT) h
      simp only [go_sem, reduceCtorEq, Nat.reduceAdd, Nat.reduceMul, Nat.reduceLeDiff, Nat.reduceLT, Int.reduceLE, Int.reduceLT, Int.reduceEq, Nat.reduceBEq, Nat.reduceEqDiff, c1, c0, hgk, hse]
      refine awp_drawE [] [6, 8] [0, 1, 2, 3, 4, 5] (fun _ => True) Tryd.mixed rfl rfl rfl rfl trivial ?_
      refine dE_early rfl rfl (.ptr (st.length + 2) 2) (by simp only [go_sem, reduceCtorEq, Nat.reduceAdd, Nat.reduceMul, Nat.reduceLeDiff, Nat.reduceLT, Int.reduceLE, Int.reduceLT, Int.reduceEq, Nat.reduceBEq, Nat.reduceEqDiff]) ?_
      refine dE_early rfl rfl (.slice (.own (st.length + 3) k) 3 (((u.args.take k).map (AP (gmGet M))).map tySV)) (by simp only [go_sem, reduceCtorEq, Nat.reduceAdd, Nat.reduceMul, Nat.reduceLeDiff, Nat.reduceLT, Int.reduceLE, Int.reduceLT, Int.reduceEq, Nat.reduceBEq, Nat.reduceEqDiff, f2.1, f2.2.1, f2.2.2]) ?_
      refine dE_early rfl rfl (.ptr id 0) (by simp only [go_sem, reduceCtorEq, Nat.reduceAdd, Nat.reduceMul, Nat.reduceLeDiff, Nat.reduceLT, Int.reduceLE, Int.reduceLT, Int.reduceEq, Nat.reduceBEq, Nat.reduceEqDiff]) ?_
      refine dE_early rfl rfl (tySV a) (by simp only [go_sem, reduceCtorEq, Nat.reduceAdd, Nat.reduceMul, Nat.reduceLeDiff, Nat.reduceLT, Int.reduceLE, Int.reduceLT, Int.reduceEq, Nat.reduceBEq, Nat.reduceEqDiff, fa.1, fa.2.1, fa.2.2]) ?_
      refine dE_early rfl rfl (tySV (AP (gmGet M) a)) ?_ ?_
      · simp only [go_sem, reduceCtorEq, Nat.reduceAdd, Nat.reduceMul, Nat.reduceLeDiff, Nat.reduceLT, Int.reduceLE, Int.reduceLT, Int.reduceEq, Nat.reduceBEq, Nat.reduceEqDiff]
        refine ⟨_, ?_, rfl⟩
        simp only [go_sem, reduceCtorEq, Nat.reduceAdd, Nat.reduceMul, Nat.reduceLeDiff, Nat.reduceLT, Int.reduceLE, Int.reduceLT, Int.reduceEq, Nat.reduceBEq, Nat.reduceEqDiff]
        refine hrec _ ⟨⟨[], by simp⟩, ids_ty _ _, .inl rfl⟩
      refine dE_early rfl rfl (.slice .full 3 [tySV (AP (gmGet M) a)]) ?_ ?_
      · simp only [go_sem, reduceCtorEq, Nat.reduceAdd, Nat.reduceMul, Nat.reduceLeDiff, Nat.reduceLT, Int.reduceLE, Int.reduceLT, Int.reduceEq, Nat.reduceBEq, Nat.reduceEqDiff]
        refine ⟨_, ?_, rfl⟩
        simp only [go_sem, reduceCtorEq, Nat.reduceAdd, Nat.reduceMul, Nat.reduceLeDiff, Nat.reduceLT, Int.reduceLE, Int.reduceLT, Int.reduceEq, Nat.reduceBEq, Nat.reduceEqDiff]
        refine ⟨⟨[], by simp⟩, ?_, .inl rfl⟩
        exact ids_tys _ _ (.inr rfl) [AP (gmGet M) a]
      refine dE_turn rfl (.slice (.own (st.length + 3) (k + 1)) 3 (((u.args.take (k + 1)).map (AP (gmGet M))).map tySV)) (s1.set (st.length + 3) (.tok (k + 1))) ?_ rfl trivial ?_
      · simp only [go_sem, reduceCtorEq, Nat.reduceAdd, Nat.reduceMul, Nat.reduceLeDiff, Nat.reduceLT, Int.reduceLE, Int.reduceLT, Int.reduceEq, Nat.reduceBEq, Nat.reduceEqDiff, ft]
        exact ⟨app3 hlen, by rw [hts]⟩
      refine dE_pure rfl rfl (.ptr (st.length + 2) 2) (fun s _ => by simp only [go_sem, reduceCtorEq, Nat.reduceAdd, Nat.reduceMul, Nat.reduceLeDiff, Nat.reduceLT, Int.reduceLE, Int.reduceLT, Int.reduceEq, Nat.reduceBEq, Nat.reduceEqDiff]) ?_
      refine dE_turn rfl .any ((s1.set (st.length + 3) (.tok (k + 1))).set (st.length + 2) (.cells [.sc (.int .i64 u.v), .sc (.string u.name), .slice (.own (st.length + 3) (k + 1)) 3 (((u.args.take (k + 1)).map (AP (gmGet M))).map tySV)])) ?_ rfl trivial ?_
      · simp only [go_sem, reduceCtorEq, Nat.reduceAdd, Nat.reduceMul, Nat.reduceLeDiff, Nat.reduceLT, Int.reduceLE, Int.reduceLT, Int.reduceEq, Nat.reduceBEq, Nat.reduceEqDiff, g2.1, g2.2.1, g2.2.2]
      refine dE_end ?_
      simp only [go_sem, reduceCtorEq, Nat.reduceAdd, Nat.reduceMul, Nat.reduceLeDiff, Nat.reduceLT, Int.reduceLE, Int.reduceLT, Int.reduceEq, Nat.reduceBEq, Nat.reduceEqDiff, hw]
      refine ⟨m - 1, _, by omega, ?_, k + 1, by omega, (hG1.set (by omega) _).set (by omega) _, ?_, ?_, ?_, rfl⟩
      · repeat (first | exact leEnv_nil | refine leEnv_any _ ?_ | refine leEnv_same _ ?_ | refine leEnv_norm _ ?_)
      · rw [List.getElem?_set_ne (by omega), List.getElem?_set_ne (by omega)]; exact y1
      · rw [List.getElem?_set_ne (by omega), List.getElem?_set_self (by have := lt_of_get y3; omega)]
      · rw [List.getElem?_set_self (by rw [List.length_set]; have := lt_of_get y2; omega)]
    · obtain rfl : k = u.args.length := by omega
      have f1 := cells_facts z1
      have f2 := cells_facts z2
      rw [List.take_length] at f2
      have hh : ∀ o, (s.set (st.length + 1) o)[st.length + 1]? = some o := fun o => List.getElem?_set_self (by have := lt_of_get z1; omega)
      have hz : zty = [.sc (.int .i64 0), .sc (.string ⟨#[]⟩), .slice .full 0 []] := rfl
      simp only [go_sem, reduceCtorEq, Nat.reduceAdd, Nat.reduceMul, Nat.reduceLeDiff, Nat.reduceLT, Int.reduceLE, Int.reduceLT, Int.reduceEq, Nat.reduceBEq, Nat.reduceEqDiff, Int.lt_irrefl, f1.1, f1.2.1, f1.2.2, f2.1, f2.2.1, f2.2.2]
      rw [hTd, tySV_eq, ← hTd, htree] at h
      refine ⟨Nat.le_refl _, ⟨((hGr.set (by omega) _)).ex, ?_, _, ?_, h⟩⟩
      · simp only [norm, List.map_cons, List.map_nil, norm1, ids_agg, List.forall_mem_cons, ids_sc, true_and]
        exact ⟨ids_tys _ _ (.inl rfl) _, fun x hx => by cases hx⟩
      · exact SVle.refl _

end Go.Proofs
set_option linter.unusedSimpArgs false
set_option linter.unusedVariables false
set_option maxRecDepth 8000
namespace Go.Proofs
open Go Go.AL

theorem fin_zty {K : SV → St → Prop} {st s : St} (hs : ∃ ex, s = st ++ ex) (h : K (tySV default) st) : FinK st (fun x s => ∃ y, SVle x y ∧ K y s) (.agg [.sc (.int .i64 0), .sc (.string ⟨#[]⟩), .slice .full 0 []]) s := by
  rw [tySV_eq] at h
  refine ⟨hs, ?_, _, ?_, h⟩
  · simp only [norm, List.map_cons, List.map_nil, norm1, ids_agg, List.forall_mem_cons, ids_sc, true_and]
    exact ⟨ids_slice (.inl rfl) fun x hx => (by cases hx), fun x hx => by cases hx⟩
  · exact SVle.agg (.cons (SVle.refl _) (.cons (SVle.refl _) (.cons (SVle.nil _ _ _ (.inr rfl)) .nil)))

theorem fin_ty {K : SV → St → Prop} {st s : St} {t : Ty} (hs : ∃ ex, s = st ++ ex) (h : K (tySV t) st) : FinK st (fun x s => ∃ y, SVle x y ∧ K y s) (tySV t) s :=
  ⟨hs, by rw [norm_ty]; exact ids_ty _ _, _, by rw [norm_ty]; exact SVle.refl _, h⟩

/-- Apply: what a type is, where it may be. -/
noncomputable def ApT (vs : Int) (B : Bd) (t : Ty) : Ty := if (mayB (fun n => decide (1 ≤ n) && decide (n ≤ vs)) t && fitB (AP B t)) = true then AP B t else default

set_option maxHeartbeats 4000000 in
theorem Apply_c {id mid : Nat} {vs : Int} {M : List (Int × Ty)} (hE : EndB (gmGet M)) (hG : Gb (gmGet M)) (t : Ty) (K : SV → St → Prop) (st : St) (hT : TSt st id mid vs M)
    (h : K (tySV (ApT vs (gmGet M) t)) st) : ACalls Tryd.prog 11 [.ptr id 0, tySV t] K st := by
  refine acalls_le ?_
  refine acalls_go_pure [] Tryd.func11 rfl Tryd.results11 Tryd.ntmps11 ?_
  have f := cells_facts hT.hid
  have hz1 : zty.length = 3 := rfl
  have hz2 : List.drop 3 zty = [] := rfl
  have hco := cellsOf_ty (P := Tryd.prog) (t := 25) (AP (gmGet M) t) Tryd.aagg25 Tryd.asize25
  have hm := fun K h => May_c id vs (.mp mid) t K (st ++ [Ob.cells zty]) (by rw [isObj_more]; trivial; rw [f.2.1]; trivial) (by rw [objAt_more]; exact f.2.2; rw [f.2.1]; trivial) h
  have hmm := fun hg K h => @may_c (st ++ [Ob.cells zty]) id mid vs M (hT.app _) hE hG t hg K h
  simp only [go_sem, reduceCtorEq, Nat.reduceAdd, Nat.reduceMul, Nat.reduceLeDiff, Nat.reduceLT, Int.reduceLE, Int.reduceLT, Int.reduceEq, Nat.reduceBEq, Nat.reduceEqDiff]
  refine hm _ ?_
  unfold ApT at h
  cases hb : mayB (fun n => decide (1 ≤ n) && decide (n ≤ vs)) t with
  | false =>
    rw [hb] at h
    simp only [go_sem, reduceCtorEq, Nat.reduceAdd, Nat.reduceMul, Nat.reduceLeDiff, Nat.reduceLT, Int.reduceLE, Int.reduceLT, Int.reduceEq, Nat.reduceBEq, Nat.reduceEqDiff, hz1, hz2]
    exact fin_zty ⟨_, rfl⟩ h
  | true =>
    have hg : gd t = true := by
      unfold mayB at hb
      rw [Bool.and_eq_true] at hb
      exact good_gd hb.1
    simp only [go_sem, reduceCtorEq, Nat.reduceAdd, Nat.reduceMul, Nat.reduceLeDiff, Nat.reduceLT, Int.reduceLE, Int.reduceLT, Int.reduceEq, Nat.reduceBEq, Nat.reduceEqDiff]
    refine hmm hg _ ?_
    rw [hb, Bool.true_and] at h
    cases hf : fitB (AP (gmGet M) t) with
    | false =>
      rw [hf] at h
      simp only [go_sem, reduceCtorEq, Nat.reduceAdd, Nat.reduceMul, Nat.reduceLeDiff, Nat.reduceLT, Int.reduceLE, Int.reduceLT, Int.reduceEq, Nat.reduceBEq, Nat.reduceEqDiff, hz1, hz2]
      exact fin_zty ⟨_, rfl⟩ h
    | true =>
      rw [hf] at h
      simp only [go_sem, reduceCtorEq, Nat.reduceAdd, Nat.reduceMul, Nat.reduceLeDiff, Nat.reduceLT, Int.reduceLE, Int.reduceLT, Int.reduceEq, Nat.reduceBEq, Nat.reduceEqDiff]
      unfold fitB at hf
      simp only [Bool.and_eq_true, decide_eq_true_eq] at hf
      refine apply_c hE hG 40 t hg hf.2 (by omega) _ _ (hT.app _) ?_
      simp only [go_sem, reduceCtorEq, Nat.reduceAdd, Nat.reduceMul, Nat.reduceLeDiff, Nat.reduceLT, Int.reduceLE, Int.reduceLT, Int.reduceEq, Nat.reduceBEq, Nat.reduceEqDiff, hz1, hz2, List.append_nil, hco]
      exact fin_ty ⟨_, rfl⟩ h

set_option maxHeartbeats 4000000 in
theorem idxf_c (g : FuncId) (cs : List SV) (hg : aBody Tryd.prog g = true) (l : List Ty) (hl : l.length ≤ 1000000) (I : Nat → St → Prop) (J : St → Prop) (K : SV → St → Prop) (st : St) (h0 : I 0 st)
    (hstep : ∀ k s, k < l.length → I k s → ∀ K' : SV → St → Prop, (∀ s', I (k + 1) s' → K' (.sc (.bool false)) s') → (∀ s', J s' → K' (.sc (.bool true)) s') → ACalls Tryd.prog g (tySV (l.getD k default) :: cs) K' s)
    (hend : ∀ s, I l.length s → K (.sc (.int .i64 (-1))) s) (htr : ∀ (k : Nat) s, J s → K (.sc (.int .i64 k)) s) : ACalls Tryd.prog 59 [.slice .imm 3 (l.map tySV), .func (.func g) [] cs] K st := by
  refine acalls_go (M := []) Tryd.func59 rfl Tryd.results59 Tryd.ntmps59 ?_
  simp only [go_sem, reduceCtorEq, Nat.reduceAdd, Nat.reduceMul, Nat.reduceLeDiff, Nat.reduceLT, Int.reduceLE, Int.reduceLT, Int.reduceEq, Nat.reduceBEq, Nat.reduceEqDiff]
  refine awp_rounds [] (fun m e s => ∃ (k : Nat), m + k = l.length ∧ I k s ∧ e = [.slice .imm 3 (l.map tySV), .func (.func g) [] cs, .any, .any, .any, .any, .slice .imm 3 (l.map tySV), .sc (.int .i64 l.length), .sc (.int .i64 k), .any, .any, .any, .any, .any, .any, .any, .any, .any, .any]) (n := l.length) ?_ ⟨0, by omega, h0, rfl⟩ ?_
  · repeat (first | exact leEnv_nil | refine leEnv_any _ ?_ | refine leEnv_same _ ?_ | refine leEnv_norm _ ?_)
  rintro m e s ⟨k, hmk, hI, rfl⟩
  by_cases hlt : k < l.length
  · have c1 : (k : Int) < (l.length : Int) := by omega
    have c0 : (0 : Int) ≤ (k : Int) := by omega
    have hw : IntKind.i64.wrap ((k : Int) + 1) = ((k + 1 : Nat) : Int) := by rw [IntWalk.i64_in _ (by omega)]; rfl
    simp only [go_sem, reduceCtorEq, Nat.reduceAdd, Nat.reduceMul, Nat.reduceLeDiff, Nat.reduceLT, Int.reduceLE, Int.reduceLT, Int.reduceEq, Nat.reduceBEq, Nat.reduceEqDiff, c1, c0, getD_mapT _ hlt, hg]
    refine hstep k s hlt hI _ (fun s' h' => ?_) (fun s' h' => ?_)
    · simp only [go_sem, reduceCtorEq, Nat.reduceAdd, Nat.reduceMul, Nat.reduceLeDiff, Nat.reduceLT, Int.reduceLE, Int.reduceLT, Int.reduceEq, Nat.reduceBEq, Nat.reduceEqDiff, hw]
      refine ⟨m - 1, _, by omega, ?_, k + 1, by omega, h', rfl⟩
      repeat (first | exact leEnv_nil | refine leEnv_any _ ?_ | refine leEnv_same _ ?_ | refine leEnv_norm _ ?_)
    · simp only [go_sem, reduceCtorEq, Nat.reduceAdd, Nat.reduceMul, Nat.reduceLeDiff, Nat.reduceLT, Int.reduceLE, Int.reduceLT, Int.reduceEq, Nat.reduceBEq, Nat.reduceEqDiff]
      exact htr k s' h'
  · obtain rfl : k = l.length := by omega
    simp only [go_sem, reduceCtorEq, Nat.reduceAdd, Nat.reduceMul, Nat.reduceLeDiff, Nat.reduceLT, Int.reduceLE, Int.reduceLT, Int.reduceEq, Nat.reduceBEq, Nat.reduceEqDiff, Int.lt_irrefl]
    exact hend s hI

theorem anyf_c (g : FuncId) (cs : List SV) (hg : aBody Tryd.prog g = true) (l : List Ty) (hl : l.length ≤ 1000000) (I : Nat → St → Prop) (J : St → Prop) (K : SV → St → Prop) (st : St) (h0 : I 0 st)
    (hstep : ∀ k s, k < l.length → I k s → ∀ K' : SV → St → Prop, (∀ s', I (k + 1) s' → K' (.sc (.bool false)) s') → (∀ s', J s' → K' (.sc (.bool true)) s') → ACalls Tryd.prog g (tySV (l.getD k default) :: cs) K' s)
    (hend : ∀ s, I l.length s → K (.sc (.bool false)) s) (htr : ∀ s, J s → K (.sc (.bool true)) s) : ACalls Tryd.prog 55 [.slice .imm 3 (l.map tySV), .func (.func g) [] cs] K st := by
  refine acalls_go (M := []) Tryd.func55 rfl Tryd.results55 Tryd.ntmps55 ?_
  simp only [go_sem, reduceCtorEq, Nat.reduceAdd, Nat.reduceMul, Nat.reduceLeDiff, Nat.reduceLT, Int.reduceLE, Int.reduceLT, Int.reduceEq, Nat.reduceBEq, Nat.reduceEqDiff]
  refine idxf_c g cs hg l hl I J _ st h0 hstep (fun s hs => ?_) (fun k s hs => ?_)
  · simp only [go_sem, reduceCtorEq, Nat.reduceAdd, Nat.reduceMul, Nat.reduceLeDiff, Nat.reduceLT, Int.reduceLE, Int.reduceLT, Int.reduceEq, Nat.reduceBEq, Nat.reduceEqDiff]
    exact hend s hs
  · have c0 : (0 : Int) ≤ (k : Int) := by omega
    simp only [go_sem, reduceCtorEq, Nat.reduceAdd, Nat.reduceMul, Nat.reduceLeDiff, Nat.reduceLT, Int.reduceLE, Int.reduceLT, Int.reduceEq, Nat.reduceBEq, Nat.reduceEqDiff, c0]
    exact htr s hs

end Go.Proofs
