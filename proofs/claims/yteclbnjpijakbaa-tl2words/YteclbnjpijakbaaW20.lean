/- The engine: Words. -/
import Derived.Test.YteclbnjpijakbaaM6
import Derived.Test.YteclbnjpijakbaaH0
set_option linter.unusedSimpArgs false
set_option linter.unusedVariables false
set_option maxRecDepth 8000
namespace Go.Proofs
open Go Go.AL

/-- What was there is as it was. -/
structure Gr (st s : St) : Prop where
  len : st.length ≤ s.length
  same : ∀ j, j < st.length → s[j]? = st[j]?

theorem Gr.refl (st : St) : Gr st st := ⟨Nat.le_refl _, fun _ _ => rfl⟩
theorem Gr.app {st s : St} (h : Gr st s) (l : St) : Gr st (s ++ l) :=
  ⟨by rw [List.length_append]; have := h.len; omega, fun j hj => by rw [List.getElem?_append_left (Nat.lt_of_lt_of_le hj h.len)]; exact h.same j hj⟩
theorem Gr.set {st s : St} (h : Gr st s) {j : Nat} (hj : st.length ≤ j) (o : Ob) : Gr st (s.set j o) :=
  ⟨by rw [List.length_set]; exact h.len, fun i hi => by rw [List.getElem?_set_ne (by omega)]; exact h.same i hi⟩
theorem Gr.ex {st s : St} (h : Gr st s) : ∃ ex, s = st ++ ex := by
  refine ⟨s.drop st.length, List.ext_getElem? fun i => ?_⟩
  by_cases c : i < st.length
  · rw [List.getElem?_append_left c]; exact h.same i c
  · rw [List.getElem?_append_right (by omega), List.getElem?_drop]
    congr 1; omega
theorem Gr.eng {st s : St} (h : Gr st s) {E : EG} (hE : EngAt st E) : EngAt s E := hE.of_same fun j hj => h.same j (hE.has_lt hj)
theorem Gr.ref {st s : St} (h : Gr st s) {R : RG} (hR : RefAt st R) : RefAt s R := hR.of_same fun j hj => h.same j (hR.has_lt hj)
theorem Gr.trans {a b c : St} (h : Gr a b) (k : Gr b c) : Gr a c := ⟨Nat.le_trans h.len k.len, fun j hj => (k.same j (Nat.lt_of_lt_of_le hj h.len)).trans (h.same j hj)⟩

theorem cells_txs {E : EG} (hl : E.txs.length = 8) : (E.cells.drop 2).take 8 = E.txs.map txSV := by
  show (E.txs.map txSV).take 8 = _
  exact List.take_of_length_le (by simp [hl])

/-- The i-th map of a transaction. -/
theorem part_at {st : St} {x : TX} (hT : TxAt st x) {i : Nat} (hi : i < x.mids.length) : ∃ cs, st[x.pid]? = some (.arr x.pver 1 cs) ∧ cs.drop i = .mp (x.mids.getD i 0) :: cs.drop (i + 1) ∧ i < cs.length ∧ st[x.mids.getD i 0]? = some (.map (pmEs (x.maps.getD i []))) := by
  obtain ⟨cs, hp, hle, htk⟩ := hT.parts
  have hic : i < cs.length := Nat.lt_of_lt_of_le hi hle
  refine ⟨cs, hp, ?_, hic, hT.maps i hi⟩
  rw [List.drop_eq_getElem_cons hic]
  congr 1
  have h1 : (cs.take x.mids.length)[i]? = some cs[i] := by rw [List.getElem?_take_of_lt hi, List.getElem?_eq_getElem hic]
  rw [htk, List.getElem?_map, List.getElem?_eq_getElem hi] at h1
  simp only [Option.map_some, Option.some.injEq] at h1
  rw [← h1]
  simp [List.getD_eq_getElem?_getD, hi]

set_option maxHeartbeats 8000000 in
theorem ewords_c {st : St} {E : EG} (hE : EngAt st E) (hF : Fine E) (hwl : (wordsF E.abs).length ≤ 400000) (K : SV → St → Prop) (h : K (.slice .imm 1 ((wordsF E.abs).map i64)) st) : ACalls Try.prog 29 [.ptr E.id 0] K st := by
  refine acalls_go_pure [] Try.func29 rfl Try.results29 Try.ntmps29 ?_
  have hmany := hE.many
  have f := cells_facts hE.cells
  have v := arr_facts hE.vars
  have hd1 : List.drop 1 E.cells = .arr E.vid E.vver E.vars.length :: E.txs.map txSV := rfl
  simp only [go_sem, reduceCtorEq, Nat.reduceAdd, Nat.reduceMul, Nat.reduceLeDiff, Nat.reduceLT, Int.reduceLE, Int.reduceLT, Int.reduceEq, Nat.reduceBEq, Nat.reduceEqDiff, f.1, f.2.1, f.2.2, v.1, v.2.1, v.2.2.1, v.2.2.2, hd1]
  refine awp_own 3 1 0 rfl ?_
  have a0 : (st ++ [Ob.tok 0])[st.length]? = some (.tok 0) := by simp
  simp only [go_sem]
  refine awp_rounds [] (fun m e s => ∃ (k ver : Nat), k + m = E.vars.length ∧ Gr st s ∧ s[st.length]? = some (.tok ver) ∧ e = [.ptr E.id 0, .any, .any, .slice (.own st.length ver) 1 (((E.vars.take k).map (·.val)).map i64), .any, .any, .any, .any, .any, .any, .any, .any, .any, .any, .any, .arr E.vid E.vver E.vars.length, i64 E.vars.length, i64 k, .any, .any, .any, .any, .any, .any, .any, .any, .any, .any, .any, .any, .any, .any, .any, .any, .any, .any, .any, .any, .any, .any, .any, .any, .any, .any, .any, .any, .any, .any, .any, .any, .any, .any, .any, .any, .any, .any, .any, .any, .any, .any, .any, .any]) (n := E.vars.length) ?_ ⟨0, 0, by omega, (Gr.refl st).app _, a0, rfl⟩ ?_
  · repeat (first | exact leEnv_nil | refine leEnv_any _ ?_ | refine leEnv_same _ ?_ | refine leEnv_norm _ ?_)
  clear a0
  rintro m e s ⟨k, ver, hkm, hG, ha, rfl⟩
  have hA := hG.eng hE
  have f := cells_facts hA.cells
  have v := arr_facts hA.vars
  by_cases hlt : k < E.vars.length
  · have c1 : (k : Int) < (E.vars.length : Int) := by omega
    have c0 : (0 : Int) ≤ (k : Int) := by omega
    have hw := wrapS k (by omega)
    have hv := vars_drop (l := E.vars) (n := k) hlt
    have happ := app_i64s (n := k + 1) (by omega)
    obtain ⟨y, hy⟩ : ∃ y, y = E.vars.getD k default := ⟨_, rfl⟩
    rw [← hy] at hv
    obtain ⟨s1, hs1⟩ : ∃ s1, s1 = s ++ [Ob.cells [i64 y.val, i64 y.ver, i64 y.lock]] := ⟨_, rfl⟩
    have hse := hs1.symm
    have hbx : s1[s.length]? = some (.cells [i64 y.val, i64 y.ver, i64 y.lock]) := by rw [hs1]; simp
    have bf := cells_facts hbx
    have ha1 : s1[st.length]? = some (.tok ver) := by rw [hs1]; exact get_app ha _
    have tk := tokAt_eq (v' := ver) ha1
    have hG1 : Gr st s1 := by rw [hs1]; exact hG.app _
    simp only [go_sem, reduceCtorEq, Nat.reduceAdd, Nat.reduceMul, Nat.reduceLeDiff, Nat.reduceLT, Int.reduceLE, Int.reduceLT, Int.reduceEq, Nat.reduceBEq, Nat.reduceEqDiff, v.1, v.2.1, v.2.2.1, v.2.2.2, c1, c0, hv, hw, Int.toNat_natCast, hse, bf.1, bf.2.1, bf.2.2, tk]
    have ht : ((E.vars.take (k + 1)).map (·.val)).map i64 = ((E.vars.take k).map (·.val)).map i64 ++ [i64 y.val] := by
      have hg : y = E.vars[k] := by rw [hy]; simp [List.getD_eq_getElem?_getD, hlt]
      rw [List.take_succ_eq_append_getElem hlt, List.map_append, List.map_append, hg]; rfl
    refine ⟨by rw [List.length_take, Nat.min_eq_left (Nat.le_of_lt hlt)]; exact happ, m - 1, _, by omega, ?_, k + 1, ver + 1, by omega, hG1.set (Nat.le_refl _) _, List.getElem?_set_self (lt_of_get ha1), rfl⟩
    rw [ht]
    repeat (first | exact leEnv_nil | refine leEnv_any _ ?_ | refine leEnv_same _ ?_ | refine leEnv_norm _ ?_)
  · obtain rfl : k = E.vars.length := by omega
    have hcs : cellsOf Try.prog 89 (List.drop 2 E.cells) = some (.agg (E.txs.map txSV)) := by
      have h1 : 8 ≤ (List.drop 2 E.cells).length := by rw [List.length_drop, cells_len E hE.len]; exact Nat.le_refl _
      simp only [cellsOf, Try.aagg89, Try.asize89, if_pos h1, cells_txs hE.len]
    have hE8 := hE.len
    have hEa : E.abs.txs = E.txs.map (Option.map TX.abs) := rfl
    simp only [go_sem, reduceCtorEq, Nat.reduceAdd, Nat.reduceMul, Nat.reduceLeDiff, Nat.reduceLT, Int.reduceLE, Int.reduceLT, Int.reduceEq, Nat.reduceBEq, Nat.reduceEqDiff, f.1, f.2.1, f.2.2, Int.lt_irrefl, List.take_length, hcs]
    refine awp_rounds [] (fun m e s => ∃ (t ver : Nat) (W : List Int), t + m = 8 ∧ wordsF E.abs = W ++ (E.abs.txs.drop t).flatMap (txW E.vars.length) ∧ Gr st s ∧ s[st.length]? = some (.tok ver) ∧
      e = [.ptr E.id 0, .any, .any, .slice (.own st.length ver) 1 (W.map i64), .any, .any, .any, .any, .any, .any, .any, .any, .any, .any, .any, .any, .any, .any, .any, .any, .any, .any, .any, .any, .any, .any, .any, .any, .any, .any, .agg (E.txs.map txSV), i64 t, .any, .any, .any, .any, .any, .any, .any, .any, .any, .any, .any, .any, .any, .any, .any, .any, .any, .any, .any, .any, .any, .any, .any, .any, .any, .any, .any, .any, .any, .any]) (n := 8) ?_ ⟨0, ver, _, by omega, rfl, hG, ha, rfl⟩ ?_
    · repeat (first | exact leEnv_nil | refine leEnv_any _ ?_ | refine leEnv_same _ ?_ | refine leEnv_norm _ ?_)
    clear f v hA hG ha
    rintro m2 e s ⟨t, ver, W, htm, hW, hG, ha, rfl⟩
    have hA := hG.eng hE
    by_cases ht : t < 8
    · have t1 : (t : Int) < 8 := by omega
      have t0 : (0 : Int) ≤ (t : Int) := by omega
      have t8 : (t : Int) < ((8 : Nat) : Int) := by omega
      have hwt := wrapS t (by omega)
      obtain ⟨o, ho⟩ : ∃ o, E.txs[t]? = some o := ⟨E.txs[t], List.getElem?_eq_getElem (by omega)⟩
      have hoa : E.abs.txs[t]? = some (o.map TX.abs) := by rw [hEa, List.getElem?_map, ho]; rfl
      have hdt : E.abs.txs.drop t = o.map TX.abs :: E.abs.txs.drop (t + 1) := by
        have e := (List.getElem?_eq_some_iff.1 hoa).2
        rw [List.drop_eq_getElem_cons (List.getElem?_eq_some_iff.1 hoa).1, e]
      have hgt : (E.txs.map txSV).getD t .any = txSV o := by simp [List.getD_eq_getElem?_getD, ho]
      rw [hdt, List.flatMap_cons] at hW
      obtain ⟨Z, hZ⟩ : ∃ Z, Z = (E.abs.txs.drop (t + 1)).flatMap (txW E.vars.length) := ⟨_, rfl⟩
      rw [← hZ] at hW
      have htl : t < (E.txs.map txSV).length := by rw [List.length_map]; omega
      cases o with
      | none =>
        simp only [go_sem, reduceCtorEq, Nat.reduceAdd, Nat.reduceMul, Nat.reduceLeDiff, Nat.reduceLT, Int.reduceLE, Int.reduceLT, Int.reduceEq, Nat.reduceBEq, Nat.reduceEqDiff, t1, t0, hgt, txSV, hwt, htl]
        refine ⟨⟨t8, by omega⟩, m2 - 1, _, by omega, ?_, t + 1, ver, W, by omega, by rw [hW, hZ]; rfl, hG, ha, rfl⟩
        repeat (first | exact leEnv_nil | refine leEnv_any _ ?_ | refine leEnv_same _ ?_ | refine leEnv_norm _ ?_)
      | some x =>
        have hT := hA.tx t x ho
        have hT0 := hE.tx t x ho
        have g := cells_facts hT.cells
        obtain ⟨cs0, hp0, _⟩ := hT.parts
        have v := arr_facts hp0
        have hml := hT.len
        have hmb := (hF.reads t x ho).2.2
        have hWx : wordsF E.abs = W ++ ((x.maps.drop 0).flatMap (fun m => mapW E.vars.length (pmGet m)) ++ Z) := by
          rw [hW]
          show W ++ ((x.maps.map pmGet).flatMap (mapW E.vars.length) ++ Z) = _
          rw [List.flatMap_map, List.drop_zero]
        clear hW
        simp only [go_sem, reduceCtorEq, Nat.reduceAdd, Nat.reduceMul, Nat.reduceLeDiff, Nat.reduceLT, Int.reduceLE, Int.reduceLT, Int.reduceEq, Nat.reduceBEq, Nat.reduceEqDiff, t1, t0, hgt, txSV, hwt, htl, g.1, g.2.1, g.2.2, TX.cells, v.1, v.2.1, v.2.2.1, v.2.2.2]
        refine ⟨⟨t8, by omega⟩, ?_⟩
        refine awp_rounds [] (fun m e s => ∃ (i ver : Nat) (W : List Int), i + m = x.mids.length ∧ wordsF E.abs = W ++ ((x.maps.drop i).flatMap (fun m => mapW E.vars.length (pmGet m)) ++ Z) ∧ Gr st s ∧ s[st.length]? = some (.tok ver) ∧
          e = [.ptr E.id 0, .any, .any, .slice (.own st.length ver) 1 (W.map i64), .any, .any, .any, .any, .any, .any, .any, .any, .any, .any, .any, .any, .any, .any, .any, .any, .any, .any, .any, .any, .any, .any, .any, .any, .any, .any, .agg (E.txs.map txSV), i64 t, .any, .any, .any, .any, .any, .any, .any, .arr x.pid x.pver x.mids.length, i64 x.mids.length, i64 i, .any, .any, .any, .any, .any, .any, .any, .any, .any, .any, .any, .any, .any, .any, .any, .any, .any, .any, .any, .any]) (n := x.mids.length) ?_ ⟨0, ver, W, by omega, hWx, hG, ha, rfl⟩ ?_
        · repeat (first | exact leEnv_nil | refine leEnv_any _ ?_ | refine leEnv_same _ ?_ | refine leEnv_norm _ ?_)
        clear hWx hG ha g hT hA v hp0
        rintro m3 e s ⟨i, ver, W, him, hW, hG, ha, rfl⟩
        have hA := hG.eng hE
        have hT := hA.tx t x ho
        by_cases hi : i < x.mids.length
        · have i1 : (i : Int) < (x.mids.length : Int) := by omega
          have i0 : (0 : Int) ≤ (i : Int) := by omega
          have hwi := wrapS i (by omega)
          obtain ⟨cs, hp, hd, hcl, hm⟩ := part_at hT hi
          have v := arr_facts hp
          obtain ⟨S, hS⟩ : ∃ S, S = x.maps.getD i [] := ⟨_, rfl⟩
          have hSm : S ∈ x.maps := by rw [hS]; simp [List.getD_eq_getElem?_getD, show i < x.maps.length by omega]
          have hks := hT.keys S hSm
          have hdom := hF.dom t x ho S hSm
          have hkl := keys_len hks hdom
          rw [← hS] at hm
          have hsort := sorted_c hm hks (by omega) hdom
          obtain ⟨ks, hksd⟩ : ∃ ks, ks = keysUpto (pmGet S) E.vars.length := ⟨_, rfl⟩
          rw [← hksd] at hsort
          have hkk : ks.length ≤ 4000 := by
            rw [hksd]; unfold keysUpto
            rw [List.length_map]
            exact Nat.le_trans (List.length_filter_le _ _) (by simpa using hmany)
          have hdm : x.maps.drop i = S :: x.maps.drop (i + 1) := by
            rw [List.drop_eq_getElem_cons (by omega), hS]; simp [List.getD_eq_getElem?_getD, show i < x.maps.length by omega]
          rw [hdm, List.flatMap_cons] at hW
          obtain ⟨Y, hY⟩ : ∃ Y, Y = (x.maps.drop (i + 1)).flatMap (fun m => mapW E.vars.length (pmGet m)) := ⟨_, rfl⟩
          rw [← hY] at hW
          have hW0 : wordsF E.abs = W ++ ((ks.drop 0).map (fun k => (pmGet S k).getD 0) ++ (Y ++ Z)) := by
            rw [hW, List.append_assoc, List.drop_zero, hksd]; rfl
          clear hW
          obtain ⟨mid, hmid⟩ : ∃ mid, mid = x.mids.getD i 0 := ⟨_, rfl⟩
          rw [← hmid] at hm hd hsort
          simp only [go_sem, reduceCtorEq, Nat.reduceAdd, Nat.reduceMul, Nat.reduceLeDiff, Nat.reduceLT, Int.reduceLE, Int.reduceLT, Int.reduceEq, Nat.reduceBEq, Nat.reduceEqDiff, i1, i0, v.1, v.2.1, v.2.2.1, v.2.2.2, Int.toNat_natCast, hd, Nat.mul_one]
          refine hsort _ ?_
          simp only [go_sem, reduceCtorEq, Nat.reduceAdd, Nat.reduceMul, Nat.reduceLeDiff, Nat.reduceLT, Int.reduceLE, Int.reduceLT, Int.reduceEq, Nat.reduceBEq, Nat.reduceEqDiff, i1, i0, v.1, v.2.1, v.2.2.1, v.2.2.2, Int.toNat_natCast, hd, Nat.mul_one]
          refine awp_rounds [] (fun m e s => ∃ (j ver : Nat) (W : List Int), j + m = ks.length ∧ wordsF E.abs = W ++ ((ks.drop j).map (fun k => (pmGet S k).getD 0) ++ (Y ++ Z)) ∧ Gr st s ∧ s[st.length]? = some (.tok ver) ∧
            e = [.ptr E.id 0, .any, .any, .slice (.own st.length ver) 1 (W.map i64), .any, .any, .any, .any, .any, .mp mid, .any, .any, .any, .any, .any, .any, .any, .any, .any, .any, .any, .any, .any, .any, .any, .any, .any, .any, .any, .any, .agg (E.txs.map txSV), i64 t, .any, .any, .any, .any, .any, .any, .any, .arr x.pid x.pver x.mids.length, i64 x.mids.length, i64 i, .any, .any, .any, .any, .slice .imm 1 (ks.map i64), i64 ks.length, i64 j, .any, .any, .any, .any, .any, .any, .any, .any, .any, .any, .any, .any, .any]) (n := ks.length) ?_ ⟨0, ver, W, by omega, hW0, hG, ha, rfl⟩ ?_
          · repeat (first | exact leEnv_nil | refine leEnv_any _ ?_ | refine leEnv_same _ ?_ | refine leEnv_norm _ ?_)
          clear hW0 hG ha v hA hT hsort hp hd hcl hm
          rintro m4 e s ⟨j, ver, W, hjm, hW, hG, ha, rfl⟩
          have hA := hG.eng hE
          have hT := hA.tx t x ho
          have hm := hT.maps i hi
          rw [← hmid, ← hS] at hm
          have mf := map_facts hm
          have hpi := pm_int S
          by_cases hj : j < ks.length
          · have j1 : (j : Int) < (ks.length : Int) := by omega
            have j0 : (0 : Int) ≤ (j : Int) := by omega
            have hwj := wrapS j (by omega)
            obtain ⟨n, hn⟩ : ∃ n, n = ks.getD j 0 := ⟨_, rfl⟩
            have hgj := getD_i64 hj
            have hdj := drop_i64 hj
            rw [← hn] at hgj hdj
            rw [hdj, List.map_cons] at hW
            obtain ⟨y, hy⟩ : ∃ y, y = (pmGet S n).getD 0 := ⟨_, rfl⟩
            rw [← hy] at hW
            have hmg : mapGet Try.prog 92 s (.mp mid) (.sc (.int .i64 n)) = some (i64 y, (pmGet S n).isSome) := by
              rw [mapGet_int Try.amap92 Try.zeroSV3 mf.2 hpi, pm_get, hy]
            have hWl : W.length + 1 ≤ 400000 := by
              rw [hW] at hwl
              simp only [List.length_append, List.length_cons] at hwl
              omega
            have happ := app_i64s (n := W.length + 1) (by omega)
            have tk := tokAt_eq (v' := ver) ha
            simp only [go_sem, reduceCtorEq, Nat.reduceAdd, Nat.reduceMul, Nat.reduceLeDiff, Nat.reduceLT, Int.reduceLE, Int.reduceLT, Int.reduceEq, Nat.reduceBEq, Nat.reduceEqDiff, j1, j0, hgj, hmg, tk, hwj, Int.toNat_natCast]
            refine ⟨happ, m4 - 1, _, by omega, ?_, j + 1, ver + 1, W ++ [y], by omega, by rw [hW]; simp, hG.set (Nat.le_refl _) _, List.getElem?_set_self (lt_of_get ha), rfl⟩
            rw [List.map_append]
            repeat (first | exact leEnv_nil | refine leEnv_any _ ?_ | refine leEnv_same _ ?_ | refine leEnv_norm _ ?_)
          · obtain rfl : j = ks.length := by omega
            rw [List.drop_length] at hW
            simp only [go_sem, reduceCtorEq, Nat.reduceAdd, Nat.reduceMul, Nat.reduceLeDiff, Nat.reduceLT, Int.reduceLE, Int.reduceLT, Int.reduceEq, Nat.reduceBEq, Nat.reduceEqDiff, Int.lt_irrefl, hwi]
            refine ⟨m3 - 1, _, by omega, ?_, i + 1, ver, W, by omega, by rw [hW, hY]; simp, hG, ha, rfl⟩
            repeat (first | exact leEnv_nil | refine leEnv_any _ ?_ | refine leEnv_same _ ?_ | refine leEnv_norm _ ?_)
        · obtain rfl : i = x.mids.length := by omega
          rw [List.drop_of_length_le (by omega)] at hW
          simp only [go_sem, reduceCtorEq, Nat.reduceAdd, Nat.reduceMul, Nat.reduceLeDiff, Nat.reduceLT, Int.reduceLE, Int.reduceLT, Int.reduceEq, Nat.reduceBEq, Nat.reduceEqDiff, Int.lt_irrefl, hwt]
          refine ⟨m2 - 1, _, by omega, ?_, t + 1, ver, W, by omega, by rw [hW, hZ]; rfl, hG, ha, rfl⟩
          repeat (first | exact leEnv_nil | refine leEnv_any _ ?_ | refine leEnv_same _ ?_ | refine leEnv_norm _ ?_)
    · obtain rfl : t = 8 := by omega
      have t1 : ((8 : Nat) : Int) < 8 ↔ False := by simp
      have hnil : E.abs.txs.drop 8 = [] := List.drop_eq_nil_of_le (by show (E.txs.map _).length ≤ 8; simp [hE8])
      rw [hnil] at hW
      simp only [List.flatMap_nil, List.append_nil] at hW
      rw [hW] at h
      simp only [go_sem, reduceCtorEq, Nat.reduceAdd, Nat.reduceMul, Nat.reduceLeDiff, Nat.reduceLT, Int.reduceLE, Int.reduceLT, Int.reduceEq, Nat.reduceBEq, Nat.reduceEqDiff, t1]
      exact ⟨hG.ex, ids_nums _ .imm _, h⟩

end Go.Proofs
