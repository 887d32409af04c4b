/- The engine: Set. -/
import Derived.Test.YteclbnjpijakbaaW22
set_option linter.unusedSimpArgs false
set_option linter.unusedVariables false
set_option maxRecDepth 8000
namespace Go.Proofs
open Go Go.AL

theorem slice_le (m : AL.Mode) (z : Nat) (l : List SV) : SVle (.slice m z l) (.slice .imm z l) := fun _ _ _ _ h => h.norm1

/-- What Set keeps: the words that are set. -/
structure SetI (st s : St) (E E1 : EG) (n : Nat) : Prop where
  at_ : EngAt s E1
  fr : Fr st E s E1
  fine : Fine E1
  txs : E1.txs.map txSV = E.txs.map txSV
  vars : E1.vars.length = E.vars.length
  words : (wordsF E1.abs).length = n
  id : E1.id = E.id
  vid : E1.vid = E.vid
  vver : E1.vver = E.vver

theorem words_vars {E : EG} {vs : List TV} (h : vs.length = E.vars.length) : wordsF (EG.abs { E with vars := vs }) = vs.map (·.val) ++ E.abs.txs.flatMap (txW E.vars.length) := by
  show vs.map (·.val) ++ E.abs.txs.flatMap (txW vs.length) = _
  rw [h]

theorem set_var {st s : St} {E E1 : EG} {n : Nat} (h : SetI st s E E1 n) {k : Nat} (hk : k < E1.vars.length) (w : Int) :
    SetI st (s.set E1.vid (.arr E1.vver 3 ((E1.vars.set k { E1.vars.getD k default with val := w }).flatMap tvSV))) E { E1 with vars := E1.vars.set k { E1.vars.getD k default with val := w } } n := by
  have hl : (E1.vars.set k { E1.vars.getD k default with val := w }).length = E1.vars.length := List.length_set
  have hcells : ({ E1 with vars := E1.vars.set k { E1.vars.getD k default with val := w } } : EG).cells = E1.cells := by
    unfold EG.cells; simp only [hl]
  have key := eng_core (s := s.set E1.vid (.arr E1.vver 3 ((E1.vars.set k { E1.vars.getD k default with val := w }).flatMap tvSV))) (E' := { E1 with vars := E1.vars.set k { E1.vars.getD k default with val := w } }) h.at_ rfl rfl rfl
    (by rw [hcells, List.getElem?_set_ne h.at_.vidne.symm]; exact h.at_.cells) (List.getElem?_set_self (lt_of_get h.at_.vars)) (by rw [hl]; exact h.at_.many) (by simp) (fun j _ q _ => List.getElem?_set_ne (Ne.symm q))
  refine ⟨key.1, h.fr.trans key.2, ⟨fun t x hx => ?_, h.fine.one, fun t x hx => ?_, h.fine.clk, fun t x hx => ?_⟩, h.txs, hl.trans h.vars, ?_, h.id, h.vid, h.vver⟩
  · have := h.fine.reads t x hx; rw [hl]; exact this
  · have := h.fine.dom t x hx; rw [hl]; exact this
  · have := h.fine.left t x hx; rw [hl]; exact this
  · rw [words_vars hl, ← h.words]
    unfold wordsF
    rw [List.length_append, List.length_append, List.length_map, List.length_map, hl]; rfl

set_option maxHeartbeats 8000000 in
theorem set_c {st : St} {E : EG} (hE : EngAt st E) (hF : Fine E) (m : AL.Mode) {ws : List Int} (hl : ws.length ≤ 500000) (hwl : (wordsF E.abs).length ≤ 400000) (K : SV → St → Prop)
    (hne : ws.length ≠ (wordsF E.abs).length → K (.tuple []) st)
    (heq : ws.length = (wordsF E.abs).length → ∀ s E', EngAt s E' → Fr st E s E' → Fine E' → wordsF E'.abs = ws → E'.vars.length = E.vars.length → K (.tuple []) s) :
    ACalls Try.prog 30 [.ptr E.id 0, .slice m 1 (ws.map i64)] K st := by
  refine acalls_args (args' := [.ptr E.id 0, .slice .imm 1 (ws.map i64)]) (.cons (SVle.refl _) (.cons (slice_le _ _ _) .nil)) ?_
  refine acalls_go (M := []) Try.func30 rfl Try.results30 Try.ntmps30 ?_
  have hmany := hE.many
  have f := cells_facts hE.cells
  have v := arr_facts hE.vars
  have hd1 : List.drop 1 E.cells = .arr E.vid E.vver E.vars.length :: E.txs.map txSV := rfl
  have hw0 := ewords_c hE hF hwl
  by_cases hlen : ws.length = (wordsF E.abs).length
  · have hlb : ((ws.length : Int) != ((wordsF E.abs).length : Int)) = false := by simp [hlen]
    have hlb2 : (((wordsF E.abs).length : Int) != ((wordsF E.abs).length : Int)) = false := by simp
    have hwv : E.vars.length ≤ ws.length := by
      rw [hlen]; unfold wordsF
      rw [List.length_append, List.length_map]
      exact Nat.le_add_right _ _
    simp only [go_sem, reduceCtorEq, Nat.reduceAdd, Nat.reduceMul, Nat.reduceLeDiff, Nat.reduceLT, Int.reduceLE, Int.reduceLT, Int.reduceEq, Nat.reduceBEq, Nat.reduceEqDiff]
    refine hw0 _ ?_
    simp only [go_sem, reduceCtorEq, Nat.reduceAdd, Nat.reduceMul, Nat.reduceLeDiff, Nat.reduceLT, Int.reduceLE, Int.reduceLT, Int.reduceEq, Nat.reduceBEq, Nat.reduceEqDiff, f.1, f.2.1, f.2.2, v.1, v.2.1, v.2.2.1, v.2.2.2, hd1, hlb, hlb2, hlen]
    have h0 : SetI st st E E ws.length := ⟨hE, Fr.refl _ _, hF, rfl, rfl, hlen.symm, rfl, rfl, rfl⟩
    refine awp_rounds [] (fun m e s => ∃ (k : Nat) (E1 : EG), k + m = E.vars.length ∧ SetI st s E E1 ws.length ∧ E1.txs = E.txs ∧ (E1.vars.take k).map (·.val) = ws.take k ∧
      e = [.ptr E.id 0, .slice .imm 1 ((ws.drop k).map i64), .any, .any, .any, .any, .any, .any, .any, .any, .any, .any, .any, .any, .any, .any, .any, .any, .any, .any, .arr E.vid E.vver E.vars.length, i64 E.vars.length, i64 k, .any, .any, .any, .any, .any, .any, .any, .any, .any, .any, .any, .any, .any, .any, .any, .any, .any, .any, .any, .any, .any, .any, .any, .any, .any, .any, .any, .any, .any, .any, .any, .any, .any, .any, .any, .any, .any, .any, .any, .any, .any, .any, .any, .any, .any, .any, .any, .any, .any, .any, .any, .any]) (n := E.vars.length) ?_ ⟨0, E, by omega, h0, rfl, rfl, rfl⟩ ?_
    · repeat (first | exact leEnv_nil | refine leEnv_any _ ?_ | refine leEnv_same _ ?_ | refine leEnv_norm _ ?_)
    rintro m e s ⟨k, E1, hkm, hI, htx, hpre, rfl⟩
    have hA := hI.at_
    have f := cells_facts hA.cells
    have v := arr_facts hA.vars
    rw [hI.id] at f
    rw [hI.vid, hI.vver] at v
    have hd1 : List.drop 1 E1.cells = .arr E.vid E.vver E.vars.length :: E1.txs.map txSV := by rw [← hI.vid, ← hI.vver, ← hI.vars]; rfl
    by_cases hlt : k < E.vars.length
    · have c1 : (k : Int) < (E.vars.length : Int) := by omega
      have c0 : (0 : Int) ≤ (k : Int) := by omega
      have hw := wrapS k (by omega)
      obtain ⟨w, hwd⟩ : ∃ w, w = ws.getD k 0 := ⟨_, rfl⟩
      have hdk := drop_i64 (l := ws) (k := k) (by omega)
      rw [← hwd] at hdk
      have hk1 : k < E1.vars.length := by rw [hI.vars]; exact hlt
      have hv := vars_drop (l := E1.vars) (n := k) hk1
      simp only [go_sem, reduceCtorEq, Nat.reduceAdd, Nat.reduceMul, Nat.reduceLeDiff, Nat.reduceLT, Int.reduceLE, Int.reduceLT, Int.reduceEq, Nat.reduceBEq, Nat.reduceEqDiff, c1, c0]
      refine awp_drawT [] [0, 0, 0, 0, 0, 0, 0, 0, 2, 2, 0, 0, 1, 2] (fun _ => True) Try.mixed rfl trivial ?_
      rw [hdk, List.map_cons]
      simp only [go_sem, reduceCtorEq, Nat.reduceAdd, Nat.reduceMul, Nat.reduceLeDiff, Nat.reduceLT, Int.reduceLE, Int.reduceLT, Int.reduceEq, Nat.reduceBEq, Nat.reduceEqDiff, drawU_n, drawU_0, drawU_1, drawU_2, drawU_3, isStore_s, f.1, f.2.1, f.2.2, v.1, v.2.1, v.2.2.1, v.2.2.2, hd1, c1, c0, hv, Int.toNat_natCast, hw]
      obtain ⟨y, hy⟩ : ∃ y, y = E1.vars.getD k default := ⟨_, rfl⟩
      have hg1 : E1.vars[k]? = some y := by rw [hy]; simp [List.getD_eq_getElem?_getD, hk1]
      have hfl := flat_put (f := tvSV) tv_z hg1 (x' := { y with val := w }) (j := 0) (v := [i64 w]) (by show 0 + 1 ≤ 3; decide) rfl
      have key := set_var hI hk1 w
      rw [hI.vid, hI.vver, ← hy, ← hfl] at key
      refine ⟨by omega, by omega, fun _ => by omega, by rw [vars_len]; omega, m - 1, _, by omega, ?_, k + 1, _, by omega, key, htx, ?_, rfl⟩
      · repeat (first | exact leEnv_nil | refine leEnv_any _ ?_ | refine leEnv_same _ ?_ | refine leEnv_norm _ ?_)
      · show ((E1.vars.set k { y with val := w }).take (k + 1)).map (·.val) = _
        have h1 : (ws.take (k + 1)) = ws.take k ++ [w] := by
          rw [List.take_succ_eq_append_getElem (by omega), hwd]; simp [List.getD_eq_getElem?_getD, show k < ws.length by omega]
        rw [h1, ← hpre, List.take_succ_eq_append_getElem (by rw [List.length_set]; exact hk1), List.take_set_of_le (Nat.le_refl k), List.getElem_set_self, List.map_append]
        rfl
    · obtain rfl : k = E.vars.length := by omega
      have hcs : cellsOf Try.prog 89 (List.drop 2 E1.cells) = some (.agg (E.txs.map txSV)) := by
        have h1 : 8 ≤ (List.drop 2 E1.cells).length := by rw [List.length_drop, cells_len E1 hA.len]; exact Nat.le_refl _
        simp only [cellsOf, Try.aagg89, Try.asize89, if_pos h1, cells_txs hA.len, hI.txs]
      have hE8 := hE.len
      have hpre0 : preT E1.abs 0 = ws.take E.vars.length := by
        unfold preT
        rw [List.take_zero, List.flatMap_nil, List.append_nil, ← hpre, List.take_of_length_le (by rw [hI.vars]; exact Nat.le_refl _)]; rfl
      simp only [go_sem, reduceCtorEq, Nat.reduceAdd, Nat.reduceMul, Nat.reduceLeDiff, Nat.reduceLT, Int.reduceLE, Int.reduceLT, Int.reduceEq, Nat.reduceBEq, Nat.reduceEqDiff, f.1, f.2.1, f.2.2, Int.lt_irrefl, hcs]
      refine awp_rounds [] (fun m e s => ∃ (t p : Nat) (E1 : EG), t + m = 8 ∧ SetI st s E E1 ws.length ∧ preT E1.abs t = ws.take p ∧ p ≤ ws.length ∧
        e = [.ptr E.id 0, .slice .imm 1 ((ws.drop p).map i64), .any, .any, .any, .any, .any, .any, .any, .any, .any, .any, .any, .any, .any, .any, .any, .any, .any, .any, .any, .any, .any, .any, .any, .any, .any, .any, .any, .any, .any, .any, .any, .any, .any, .any, .any, .any, .any, .any, .any, .agg (E.txs.map txSV), i64 t, .any, .any, .any, .any, .any, .any, .any, .any, .any, .any, .any, .any, .any, .any, .any, .any, .any, .any, .any, .any, .any, .any, .any, .any, .any, .any, .any, .any, .any, .any, .any, .any]) (n := 8) ?_ ⟨0, E.vars.length, E1, by omega, hI, hpre0, hwv, rfl⟩ ?_
      · repeat (first | exact leEnv_nil | refine leEnv_any _ ?_ | refine leEnv_same _ ?_ | refine leEnv_norm _ ?_)
      clear hpre0 hcs hA hI htx hpre f v hd1
      rintro m2 e s ⟨t, p, E1, htm, hI, hpre, hp, rfl⟩
      have hA := hI.at_
      by_cases ht : t < 8
      · have t1 : (t : Int) < 8 := by omega
        have t0 : (0 : Int) ≤ (t : Int) := by omega
        have t8 : (t : Int) < ((8 : Nat) : Int) := by omega
        have hwt := wrapS t (by omega)
        obtain ⟨o, ho⟩ : ∃ o, E1.txs[t]? = some o := ⟨E1.txs[t]'(by rw [hA.len]; exact ht), List.getElem?_eq_getElem _⟩
        have hoa : E1.abs.txs[t]? = some (o.map TX.abs) := by
          show (E1.txs.map _)[t]? = _
          rw [List.getElem?_map, ho]; rfl
        have hgt : (E.txs.map txSV).getD t .any = txSV o := by rw [← hI.txs]; simp [List.getD_eq_getElem?_getD, ho]
        have htl : t < (E.txs.map txSV).length := by rw [List.length_map]; omega
        have hps := preT_succ hoa
        cases o with
        | none =>
          simp only [go_sem, reduceCtorEq, Nat.reduceAdd, Nat.reduceMul, Nat.reduceLeDiff, Nat.reduceLT, Int.reduceLE, Int.reduceLT, Int.reduceEq, Nat.reduceBEq, Nat.reduceEqDiff, t1, t0, hgt, txSV, hwt, htl]
          refine ⟨⟨t8, by omega⟩, m2 - 1, _, by omega, ?_, t + 1, p, E1, by omega, hI, by rw [hps, hpre]; exact List.append_nil _, hp, rfl⟩
          repeat (first | exact leEnv_nil | refine leEnv_any _ ?_ | refine leEnv_same _ ?_ | refine leEnv_norm _ ?_)
        | some x =>
          have hT := hA.tx t x ho
          have g := cells_facts hT.cells
          obtain ⟨cs0, hp0, _⟩ := hT.parts
          have v := arr_facts hp0
          have hmb := (hI.fine.reads t x ho).2.2
          simp only [go_sem, reduceCtorEq, Nat.reduceAdd, Nat.reduceMul, Nat.reduceLeDiff, Nat.reduceLT, Int.reduceLE, Int.reduceLT, Int.reduceEq, Nat.reduceBEq, Nat.reduceEqDiff, t1, t0, hgt, txSV, hwt, htl, g.1, g.2.1, g.2.2, TX.cells, v.1, v.2.1, v.2.2.1, v.2.2.2]
          refine ⟨⟨t8, by omega⟩, ?_⟩
          refine awp_rounds [] (fun m e s => ∃ (i p : Nat) (E1 : EG) (x1 : TX), i + m = x.mids.length ∧ SetI st s E E1 ws.length ∧ E1.txs[t]? = some (some x1) ∧ x1.pid = x.pid ∧ x1.pver = x.pver ∧ x1.mids = x.mids ∧
            preT E1.abs t ++ mapsW E.vars.length (x1.abs.maps.take i) = ws.take p ∧ p ≤ ws.length ∧
            e = [.ptr E.id 0, .slice .imm 1 ((ws.drop p).map i64), .any, .any, .any, .any, .any, .any, .any, .any, .any, .any, .any, .any, .any, .any, .any, .any, .any, .any, .any, .any, .any, .any, .any, .any, .any, .any, .any, .any, .any, .any, .any, .any, .any, .any, .any, .any, .any, .any, .any, .agg (E.txs.map txSV), i64 t, .any, .any, .any, .any, .any, .any, .any, .arr x.pid x.pver x.mids.length, i64 x.mids.length, i64 i, .any, .any, .any, .any, .any, .any, .any, .any, .any, .any, .any, .any, .any, .any, .any, .any, .any, .any, .any, .any, .any, .any]) (n := x.mids.length) ?_ ⟨0, p, E1, x, by omega, hI, ho, rfl, rfl, rfl, by rw [hpre]; exact List.append_nil _, hp, rfl⟩ ?_
          · repeat (first | exact leEnv_nil | refine leEnv_any _ ?_ | refine leEnv_same _ ?_ | refine leEnv_norm _ ?_)
          clear hpre hps hoa hgt hT g hp0 v hA hI hp ho
          rintro m3 e s ⟨i, p, E1, x1, him, hI, ho, e1, e2, e3, hpre, hp, rfl⟩
          have hA := hI.at_
          have hT := hA.tx t x1 ho
          have hoa : E1.abs.txs[t]? = some (some x1.abs) := by
            show (E1.txs.map _)[t]? = _
            rw [List.getElem?_map, ho]; rfl
          have hml := hT.len
          have hal : x1.abs.maps.length = x1.maps.length := by show (x1.maps.map _).length = _; rw [List.length_map]
          by_cases hi : i < x.mids.length
          · have i1 : (i : Int) < (x.mids.length : Int) := by omega
            have i0 : (0 : Int) ≤ (i : Int) := by omega
            have hwi := wrapS i (by omega)
            have hi' : i < x1.mids.length := by rw [e3]; exact hi
            obtain ⟨cs, hp1, hd, hcl, hm⟩ := part_at hT hi'
            rw [e1, e2] at hp1
            have v := arr_facts hp1
            obtain ⟨mid, hmid⟩ : ∃ mid, mid = x.mids.getD i 0 := ⟨_, rfl⟩
            rw [e3, ← hmid] at hd hm
            obtain ⟨S, hS⟩ : ∃ S, S = x1.maps.getD i [] := ⟨_, rfl⟩
            have hSm : S ∈ x1.maps := by rw [hS]; simp [List.getD_eq_getElem?_getD, show i < x1.maps.length by omega]
            have hks := hT.keys S hSm
            have hdom := hI.fine.dom t x1 ho S hSm
            have hkl := keys_len hks hdom
            rw [← hS] at hm
            have hmn := hI.vars
            have hsort := sorted_c hm hks (by omega) hdom
            rw [hmn] at hsort
            obtain ⟨ks, hksd⟩ : ∃ ks, ks = keysUpto (pmGet S) E.vars.length := ⟨_, rfl⟩
            rw [← hksd] at hsort
            have hkk : ks.length ≤ 4000 := by
              rw [hksd]; unfold keysUpto
              rw [List.length_map]
              exact Nat.le_trans (List.length_filter_le _ _) (by simpa using hmany)
            simp only [go_sem, reduceCtorEq, Nat.reduceAdd, Nat.reduceMul, Nat.reduceLeDiff, Nat.reduceLT, Int.reduceLE, Int.reduceLT, Int.reduceEq, Nat.reduceBEq, Nat.reduceEqDiff, i1, i0, v.1, v.2.1, v.2.2.1, v.2.2.2, Int.toNat_natCast, hd, Nat.mul_one]
            refine hsort _ ?_
            simp only [go_sem, reduceCtorEq, Nat.reduceAdd, Nat.reduceMul, Nat.reduceLeDiff, Nat.reduceLT, Int.reduceLE, Int.reduceLT, Int.reduceEq, Nat.reduceBEq, Nat.reduceEqDiff, i1, i0, v.1, v.2.1, v.2.2.1, v.2.2.2, Int.toNat_natCast, hd, Nat.mul_one]
            refine awp_rounds [] (fun m e s => ∃ (j p : Nat) (E1 : EG) (x1 : TX) (S : PMap), j + m = ks.length ∧ SetI st s E E1 ws.length ∧ E1.txs[t]? = some (some x1) ∧ x1.pid = x.pid ∧ x1.pver = x.pver ∧ x1.mids = x.mids ∧
              S = x1.maps.getD i [] ∧ ks = keysUpto (pmGet S) E.vars.length ∧
              preT E1.abs t ++ (mapsW E.vars.length (x1.abs.maps.take i) ++ (ks.take j).map (fun k => (pmGet S k).getD 0)) = ws.take p ∧ p ≤ ws.length ∧
              e = [.ptr E.id 0, .slice .imm 1 ((ws.drop p).map i64), .any, .any, .any, .any, .any, .any, .mp mid, .any, .any, .any, .any, .any, .any, .any, .any, .any, .any, .any, .any, .any, .any, .any, .any, .any, .any, .any, .any, .any, .any, .any, .any, .any, .any, .any, .any, .any, .any, .any, .any, .agg (E.txs.map txSV), i64 t, .any, .any, .any, .any, .any, .any, .any, .arr x.pid x.pver x.mids.length, i64 x.mids.length, i64 i, .any, .any, .any, .any, .slice .imm 1 (ks.map i64), i64 ks.length, i64 j, .any, .any, .any, .any, .any, .any, .any, .any, .any, .any, .any, .any, .any, .any, .any]) (n := ks.length) ?_
              ⟨0, p, E1, x1, S, by omega, hI, ho, e1, e2, e3, hS, hksd, by rw [← hpre, List.take_zero, List.map_nil, List.append_nil], hp, rfl⟩ ?_
            · repeat (first | exact leEnv_nil | refine leEnv_any _ ?_ | refine leEnv_same _ ?_ | refine leEnv_norm _ ?_)
            clear hpre hoa hT hp1 v hA hI hp ho hsort hm hd hcl hS hSm hks hdom hkl hksd hml hal e1 e2 e3 hi' hmn
            rintro m4 e s ⟨j, p, E1, x1, S, hjm, hI, ho, e1, e2, e3, hS, hksd, hpre, hp, rfl⟩
            have hA := hI.at_
            have hT := hA.tx t x1 ho
            have hoa : E1.abs.txs[t]? = some (some x1.abs) := by
              show (E1.txs.map _)[t]? = _
              rw [List.getElem?_map, ho]; rfl
            have hml := hT.len
            have hal : x1.abs.maps.length = x1.maps.length := by show (x1.maps.map _).length = _; rw [List.length_map]
            have hi' : i < x1.mids.length := by rw [e3]; exact hi
            have hga : x1.abs.maps.getD i (fun _ => none) = pmGet S := by
              show (x1.maps.map pmGet).getD i _ = _
              rw [hS]
              simp [List.getD_eq_getElem?_getD, show i < x1.maps.length by omega]
            have hm := hT.maps i hi'
            rw [e3, ← hmid, ← hS] at hm
            have mf := map_facts hm
            have hpi := pm_int S
            by_cases hj : j < ks.length
            · have j1 : (j : Int) < (ks.length : Int) := by omega
              have j0 : (0 : Int) ≤ (j : Int) := by omega
              have hwj := wrapS j (by omega)
              obtain ⟨n, hn⟩ : ∃ n, n = ks.getD j 0 := ⟨_, rfl⟩
              have hgj := getD_i64 hj
              rw [← hn] at hgj
              have hnk : n ∈ ks := by rw [hn]; simp [List.getD_eq_getElem?_getD, hj]
              have hns : (pmGet S n).isSome = true := by rw [hksd] at hnk; exact (mem_keysUpto.1 hnk).2
              obtain ⟨idx, hidx⟩ : ∃ idx, keyIdx (pmEs S) (.int .i64 n) = some idx := by
                have h1 := congrArg Prod.snd (pm_get S n 0)
                unfold getOr at h1
                cases hk : keyIdx (pmEs S) (.int .i64 n) with
                | none => rw [hk] at h1; rw [hns] at h1; cases h1
                | some q => exact ⟨q, rfl⟩
              have hil := keyIdx_lt hidx
              -- the word
              have hlen2 : (ws.take p).length = p := by rw [List.length_take]; omega
              have htot := hI.words
              rw [words_cut hoa] at htot
              have hpl : p < ws.length := by
                have h1 : (mapsW E.vars.length x1.abs.maps) = _ := mapsW_cut (n := E.vars.length) (l := x1.abs.maps) (i := i) (by omega)
                rw [hga] at h1
                have h2 : (mapW E.vars.length (pmGet S)).length = ks.length := by rw [mapW_len, hksd]
                have h3 := congrArg List.length h1
                have h4 := congrArg List.length hpre
                have h5 : (txW E1.abs.vars.length (some x1.abs)) = mapsW E.vars.length x1.abs.maps := by
                  show mapsW E1.vars.length _ = _
                  rw [hI.vars]
                rw [h5] at htot
                simp only [List.length_append, List.length_map, List.length_take, h2] at h3 h4 htot
                omega
              obtain ⟨w, hwd⟩ : ∃ w, w = ws.getD p 0 := ⟨_, rfl⟩
              have hdk := drop_i64 (l := ws) (k := p) hpl
              rw [← hwd] at hdk
              have hput := pm_put S n w
              unfold mapPut at hput
              rw [hidx] at hput
              have hput : (pmEs S).set idx (((pmEs S).getD idx (default, .any)).1, i64 w) = pmEs (pmPut S n w) := hput
              have hent : ∀ K, entrySpec Try.prog 92 s (.mp mid) (.sc (.int .i64 n)) K = K (.tuple [((pmEs S).getD idx (default, .any)).2, .stamp mid idx]) s := fun K => by
                rw [entry_int Try.amap92 Try.zeroSV3 mf.2 hpi, hidx]
              have key := eng_mapAt hA ht ho hi' (pmPut S n w) (pm_keys_put (hT.keys S (by rw [hS]; simp [List.getD_eq_getElem?_getD, show i < x1.maps.length by omega])) n w)
              rw [e3, ← hmid] at key
              have hfi := fine_mapAt hI.fine ho i (k := n) (v := w) (by rw [← hS]; exact hns)
              rw [← hS] at hfi
              obtain ⟨E2, hE2⟩ : ∃ E2, E2 = E1.setTx t (x1.setAt i (pmPut S n w)) := ⟨_, rfl⟩
              rw [← hE2] at key hfi
              simp only [go_sem, reduceCtorEq, Nat.reduceAdd, Nat.reduceMul, Nat.reduceLeDiff, Nat.reduceLT, Int.reduceLE, Int.reduceLT, Int.reduceEq, Nat.reduceBEq, Nat.reduceEqDiff, j1, j0, hgj, Int.toNat_natCast]
              refine awp_drawT [] [0, 0, 2, 2, 2, 2, 2, 3, 2, 3, 2] (fun _ => True) Try.mixed rfl trivial ?_
              rw [hdk, List.map_cons]
              simp only [go_sem, reduceCtorEq, Nat.reduceAdd, Nat.reduceMul, Nat.reduceLeDiff, Nat.reduceLT, Int.reduceLE, Int.reduceLT, Int.reduceEq, Nat.reduceBEq, Nat.reduceEqDiff, drawU_n, drawU_0, drawU_1, drawU_2, drawU_3, isStore_s, Int.toNat_natCast, hwj, hent]
              have hx2 : E2.txs[t]? = some (some (x1.setAt i (pmPut S n w))) := by
                rw [hE2]; exact List.getElem?_set_self (lt_of_get ho)
              have hab : E2.abs = { E1.abs with txs := E1.abs.txs.set t (some (x1.setAt i (pmPut S n w)).abs) } := by
                rw [hE2]
                simp only [EG.abs, EG.setTx, List.map_set]; rfl
              have hxm : (x1.setAt i (pmPut S n w)).abs.maps = x1.abs.maps.set i (fmPut (pmGet S) n w) := by
                show (x1.maps.set i (pmPut S n w)).map pmGet = (x1.maps.map pmGet).set i _
                rw [List.map_set, pmGet_put]
              have hke : keysUpto (pmGet (pmPut S n w)) E.vars.length = ks := by
                rw [hksd]
                exact keys_same (fun k => by rw [pmGet_put]; exact fmPut_some hns k) _
              have hwl2 : (wordsF E2.abs).length = ws.length := by
                rw [hab, ← hI.words]
                refine words_set_len hoa ?_
                show (mapsW E1.vars.length (x1.setAt i (pmPut S n w)).abs.maps).length = (mapsW E1.vars.length x1.abs.maps).length
                rw [hxm, hI.vars]
                refine mapsW_set_len (by omega) ?_
                rw [hga, mapW_len, mapW_len, ← pmGet_put, hke, hksd]
              have htx2 : E2.txs.map txSV = E.txs.map txSV := by
                rw [← hI.txs, hE2]
                show (E1.txs.set t (some (x1.setAt i (pmPut S n w)))).map txSV = _
                rw [List.map_set]
                show (E1.txs.map txSV).set t (txSV (some x1)) = _
                refine set_same ?_
                rw [List.getElem?_map, ho]; rfl
              have hI2 : SetI st (s.set mid (.map (pmEs (pmPut S n w)))) E E2 ws.length := ⟨key.1, hI.fr.trans key.2, hfi, htx2, by rw [hE2]; exact hI.vars, hwl2, by rw [hE2]; exact hI.id, by rw [hE2]; exact hI.vid, by rw [hE2]; exact hI.vver⟩
              have hpre2 : preT E2.abs t ++ (mapsW E.vars.length ((x1.setAt i (pmPut S n w)).abs.maps.take i) ++ (ks.take (j + 1)).map (fun k => (pmGet (pmPut S n w) k).getD 0)) = ws.take (p + 1) := by
                have q1 : ws.take (p + 1) = ws.take p ++ [w] := by
                  rw [List.take_succ_eq_append_getElem hpl, hwd]; simp [List.getD_eq_getElem?_getD, hpl]
                have q2 : ks.take (j + 1) = ks.take j ++ [n] := by
                  rw [List.take_succ_eq_append_getElem hj, hn]; simp [List.getD_eq_getElem?_getD, hj]
                have hnd : (ks.take (j + 1)).Nodup := by
                  have h9 : ks.Nodup := by rw [hksd]; exact (keysUpto_sorted _ _).imp fun h => by omega
                  exact h9.sublist (List.take_sublist _ _)
                rw [q2, List.nodup_append] at hnd
                have q3 : (ks.take j).map (fun k => (pmGet (pmPut S n w) k).getD 0) = (ks.take j).map (fun k => (pmGet S k).getD 0) := by
                  refine List.map_congr_left fun k hk => ?_
                  have hkn : k ≠ n := hnd.2.2 k hk n (by simp)
                  rw [pmGet_put]
                  simp [fmPut, hkn]
                have q4 : (pmGet (pmPut S n w) n).getD 0 = w := by rw [pmGet_put]; simp [fmPut]
                rw [q1, ← hpre, hab, preT_set (Nat.le_refl t), hxm, List.take_set_of_le (Nat.le_refl i), q2, List.map_append, q3, List.map_cons, q4]
                simp only [List.append_assoc, List.map_nil]
              refine ⟨by omega, fun _ => by omega, by omega, fun _ => by omega, _, _, ⟨rfl, rfl⟩, by show 1 < 2; decide, fun _ => by show 1 < 2; decide, .any, s.set mid (.map (pmEs (pmPut S n w))), ?_, m4 - 1, _, by omega, ?_,
                j + 1, p + 1, E2, x1.setAt i (pmPut S n w), pmPut S n w, by omega, hI2, hx2, e1, e2, e3, ?_, hke.symm, hpre2, hpl, rfl⟩
              · show stampSpec s (i64 w) (.mp mid) (.stamp mid idx) _
                simp only [stampSpec, mf.2]
                exact ⟨trivial, hil, trivial, by rw [hput]⟩
              · repeat (first | exact leEnv_nil | refine leEnv_any _ ?_ | refine leEnv_same _ ?_ | refine leEnv_norm _ ?_)
              · show _ = (x1.maps.set i (pmPut S n w)).getD i []
                simp [List.getD_eq_getElem?_getD, show i < x1.maps.length by omega]
            · obtain rfl : j = ks.length := by omega
              rw [List.take_length] at hpre
              have hms : mapsW E.vars.length (x1.abs.maps.take (i + 1)) = mapsW E.vars.length (x1.abs.maps.take i) ++ ks.map (fun k => (pmGet S k).getD 0) := by
                rw [mapsW_succ (by omega), hga, hksd]; rfl
              simp only [go_sem, reduceCtorEq, Nat.reduceAdd, Nat.reduceMul, Nat.reduceLeDiff, Nat.reduceLT, Int.reduceLE, Int.reduceLT, Int.reduceEq, Nat.reduceBEq, Nat.reduceEqDiff, Int.lt_irrefl, hwi]
              refine ⟨m3 - 1, _, by omega, ?_, i + 1, p, E1, x1, by omega, hI, ho, e1, e2, e3, by rw [hms, hpre], hp, rfl⟩
              repeat (first | exact leEnv_nil | refine leEnv_any _ ?_ | refine leEnv_same _ ?_ | refine leEnv_norm _ ?_)
          · obtain rfl : i = x.mids.length := by omega
            rw [List.take_of_length_le (by rw [hal, hml, e3]; exact Nat.le_refl _)] at hpre
            have hps := preT_succ hoa
            simp only [go_sem, reduceCtorEq, Nat.reduceAdd, Nat.reduceMul, Nat.reduceLeDiff, Nat.reduceLT, Int.reduceLE, Int.reduceLT, Int.reduceEq, Nat.reduceBEq, Nat.reduceEqDiff, Int.lt_irrefl, hwt]
            refine ⟨m2 - 1, _, by omega, ?_, t + 1, p, E1, by omega, hI, ?_, hp, rfl⟩
            · repeat (first | exact leEnv_nil | refine leEnv_any _ ?_ | refine leEnv_same _ ?_ | refine leEnv_norm _ ?_)
            · rw [hps, ← hpre]
              show _ ++ mapsW E1.vars.length x1.abs.maps = _
              rw [hI.vars]
      · obtain rfl : t = 8 := by omega
        have t1 : ((8 : Nat) : Int) < 8 ↔ False := by simp
        rw [preT_all (by show (E1.txs.map _).length = 8; rw [List.length_map]; exact hA.len)] at hpre
        have hpe : wordsF E1.abs = ws := by
          have h1 := congrArg List.length hpre
          rw [hI.words, List.length_take] at h1
          rw [hpre, List.take_of_length_le (by omega)]
        simp only [go_sem, reduceCtorEq, Nat.reduceAdd, Nat.reduceMul, Nat.reduceLeDiff, Nat.reduceLT, Int.reduceLE, Int.reduceLT, Int.reduceEq, Nat.reduceBEq, Nat.reduceEqDiff, t1]
        exact heq hlen s E1 hA hI.fr hI.fine hpe hI.vars
  · have hlb : ((ws.length : Int) != ((wordsF E.abs).length : Int)) = true := by
      have : ¬ (ws.length : Int) = ((wordsF E.abs).length : Int) := fun q => hlen (by omega)
      simpa using this
    simp only [go_sem, reduceCtorEq, Nat.reduceAdd, Nat.reduceMul, Nat.reduceLeDiff, Nat.reduceLT, Int.reduceLE, Int.reduceLT, Int.reduceEq, Nat.reduceBEq, Nat.reduceEqDiff]
    refine hw0 _ ?_
    simp only [go_sem, reduceCtorEq, Nat.reduceAdd, Nat.reduceMul, Nat.reduceLeDiff, Nat.reduceLT, Int.reduceLE, Int.reduceLT, Int.reduceEq, Nat.reduceBEq, Nat.reduceEqDiff, List.length_map, hlb]
    exact hne hlen

end Go.Proofs
