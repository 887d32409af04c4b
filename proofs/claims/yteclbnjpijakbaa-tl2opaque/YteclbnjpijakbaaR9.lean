/- The reference: Shut. -/
import Derived.Test.YteclbnjpijakbaaR8
set_option linter.unusedSimpArgs false
set_option linter.unusedVariables false
set_option maxRecDepth 8000
namespace Go.Proofs
open Go Go.AL

def ownR (k : Int) (l : List PW) : List PW := l.filter fun p => decide (p.part = k)
def restR (k : Int) (l : List PW) : List PW := l.filter fun p => !decide (p.part = k)
def joinR (k : Int) (own rest : List PW) : List PW := own.foldl (fun l p => putR l p.n p.v (k - 1)) rest

def shutR (R : RP) (t : Int) (keep : Bool) : Int × RP := if R.opn t = true ∧ (R.get t).parts ≠ 1 then
    (0, R.put t { R.get t with puts := if keep then joinR (R.get t).parts (ownR (R.get t).parts (R.get t).puts) (restR (R.get t).parts (R.get t).puts) else restR (R.get t).parts (R.get t).puts, parts := (R.get t).parts - 1 })
  else (1, R)

/-- What is none of the reference's turns. -/
theorem ref_out {st s : St} {R : RG} (h0 : RefAt st R) (hR : RefAt s R) (hF : RFr st R s R) {j : Nat} (hj : st.length ≤ j) (o : Ob) : RefAt (s.set j o) R ∧ RFr st R (s.set j o) R := by
  have hn : ∀ i, R.has i → i ≠ j := fun i hi => by have := h0.has_lt hi; omega
  refine ⟨hR.of_same fun i hi => List.getElem?_set_ne (Ne.symm (hn i hi)), by simpa using hF.len, fun i hi hni => ?_, hF.new, rfl⟩
  rw [List.getElem?_set_ne (by omega)]; exact hF.old i hi hni

/-- A record gets another place for its writes. -/
theorem ref_moved {st s : St} {R : RG} (h0 : RefAt st R) (hR : RefAt s R) (hF : RFr st R s R) {t : Nat} {y : RX} (hy : R.xs[t]? = some y) {id ver : Nat} {l : List PW} (hid : st.length ≤ id) (hl : s[id]? = some (.arr ver 3 (l.flatMap pwSV))) (k : Int) :
    RefAt (s.set R.tid (.cells ((R.xs.set t { y with pid := id, pver := ver, x := { y.x with puts := l, parts := k } }).flatMap RX.cells))) (R.setX t { y with pid := id, pver := ver, x := { y.x with puts := l, parts := k } }) ∧
    RFr st R (s.set R.tid (.cells ((R.xs.set t { y with pid := id, pver := ver, x := { y.x with puts := l, parts := k } }).flatMap RX.cells))) (R.setX t { y with pid := id, pver := ver, x := { y.x with puts := l, parts := k } }) := by
  have hlt : ∀ i, R.has i → i < st.length := fun i hi => h0.has_lt hi
  have g : ∀ j, j ≠ R.tid → (s.set R.tid (.cells ((R.xs.set t { y with pid := id, pver := ver, x := { y.x with puts := l, parts := k } }).flatMap RX.cells)))[j]? = s[j]? := fun j a => List.getElem?_set_ne (Ne.symm a)
  have e : ∀ j, R.has j → st[j]? = st[j]? := fun _ _ => rfl
  have htid := hlt R.tid (.inr (.inr (.inl rfl)))
  have r := hR.rne hy
  obtain ⟨y', hy'⟩ : ∃ y', y' = { y with pid := id, pver := ver, x := { y.x with puts := l, parts := k } } := ⟨_, rfl⟩
  rw [← hy'] at g ⊢
  have k1 : (s.set R.tid (.cells ((R.xs.set t y').flatMap RX.cells)))[y'.rid]? = some (.tok y'.rver) := by
    rw [hy']; exact (List.getElem?_set_ne r.2.2.symm).trans (hR.tok _ _ hy)
  have k2 : (s.set R.tid (.cells ((R.xs.set t y').flatMap RX.cells)))[y'.pid]? = some (.arr y'.pver 3 (y'.x.puts.flatMap pwSV)) := by
    rw [hy']; exact (List.getElem?_set_ne (show R.tid ≠ id by omega)).trans hl
  -- from s, where the new place is there already
  have hns : ∀ (u : Nat) (z : RX), R.xs[u]? = some z → z.pid ≠ id := fun u z hz e => by
    have := hlt z.pid (.inr (.inr (.inr ⟨u, z, hz, .inr rfl⟩))); omega
  have hlt0 := lt_of_get hy
  have hget : ∀ (u : Nat) (z : RX), (R.setX t y').xs[u]? = some z → (u = t ∧ z = y') ∨ (u ≠ t ∧ R.xs[u]? = some z) := by
    intro u z hz
    have hz : (R.xs.set t y')[u]? = some z := hz
    by_cases e : u = t
    · subst e
      rw [List.getElem?_set_self hlt0] at hz
      exact .inl ⟨rfl, by simpa using hz.symm⟩
    · rw [List.getElem?_set_ne (Ne.symm e)] at hz
      exact .inr ⟨e, hz⟩
  have ery : y'.rid = y.rid := by rw [hy']
  have epy : y'.pid = id := by rw [hy']
  refine ⟨⟨(g _ hR.ne).trans hR.cells, (g _ hR.ntv.symm).trans hR.vars, List.getElem?_set_self (by have := hF.len; omega), by simpa [RG.setX] using hR.len, hR.many, fun u z hz => ?_, fun u z hz => ?_, fun u u' z z' hz hz' hne => ?_, fun u z hz => ?_, hR.ne⟩,
    ⟨by simpa using hF.len, fun j hj hn => ?_, fun j hj => ?_, rfl⟩⟩
  · rcases hget u z hz with ⟨_, rfl⟩ | ⟨e, f⟩
    · exact k1
    · rw [g _ (hR.rne f).2.2]; exact hR.tok u z f
  · rcases hget u z hz with ⟨_, rfl⟩ | ⟨e, f⟩
    · exact k2
    · rw [g _ (hR.pne f).2.2]; exact hR.puts u z f
  · rcases hget u z hz with ⟨e, rfl⟩ | ⟨e, f⟩ <;> rcases hget u' z' hz' with ⟨e', rfl⟩ | ⟨e', f'⟩
    · omega
    · rw [ery, epy]; exact ⟨(hR.apart _ _ _ _ hy f' (by omega)).1, (hns _ _ f').symm⟩
    · rw [ery, epy]; exact ⟨(hR.apart _ _ _ _ f hy (by omega)).1, hns _ _ f⟩
    · exact hR.apart u u' z z' f f' hne
  · rcases hget u z hz with ⟨_, rfl⟩ | ⟨e, f⟩
    · rw [epy]
      have := hlt R.vid (.inr (.inl rfl))
      show id ≠ R.vid
      omega
    · exact hR.own u z f
  · rw [g j (fun e => hn (.inr (.inr (.inl e))))]; exact hF.old j hj hn
  · rcases hj with e | e | e | ⟨u, z, hz, e⟩
    · exact .inl (.inl e)
    · exact .inl (.inr (.inl e))
    · exact .inl (.inr (.inr (.inl e)))
    · rcases hget u z hz with ⟨_, rfl⟩ | ⟨q, f⟩
      · rw [ery, epy] at e
        rcases e with rfl | rfl
        · exact .inl (.inr (.inr (.inr ⟨t, y, hy, .inl rfl⟩)))
        · exact .inr hid
      · exact .inl (.inr (.inr (.inr ⟨u, z, f, e⟩)))

set_option maxHeartbeats 8000000 in
theorem rshut_c {st : St} {R : RG} (hR : RefAt st R) {b : Nat} (hF : FineR b R.abs) (t : Int) (keep : Bool) (K : SV → St → Prop)
    (h : ∀ s R', RefAt s R' → RFr st R s R' → R'.abs = (shutR R.abs t keep).2 → K (i64 (shutR R.abs t keep).1) s) : ACalls Try.prog 57 [.ptr R.id 0, i64 t, .sc (.bool keep)] K st := by
  refine acalls_go (M := []) Try.func57 rfl Try.results57 Try.ntmps57 ?_
  have f := cells_facts hR.cells
  have g := cells_facts hR.txs
  have hof := ropen_c hR t
  unfold shutR at h
  cases hb : R.abs.opn t with
  | false =>
    rw [hb] at hof
    rw [if_neg (by rw [hb]; simp)] at h
    simp only [go_sem, reduceCtorEq, Nat.reduceAdd, Nat.reduceMul, Nat.reduceLeDiff, Nat.reduceLT, Int.reduceLE, Int.reduceLT, Int.reduceEq, Nat.reduceBEq, Nat.reduceEqDiff]
    refine hof _ ?_
    simp only [go_sem, reduceCtorEq, Nat.reduceAdd, Nat.reduceMul, Nat.reduceLeDiff, Nat.reduceLT, Int.reduceLE, Int.reduceLT, Int.reduceEq, Nat.reduceBEq, Nat.reduceEqDiff]
    exact h st R hR (RFr.refl _ _) rfl
  | true =>
    rw [hb] at hof
    have ho := ropn_get hb
    obtain ⟨y, hy, hg⟩ := hR.at ho.1
    rw [hg] at h
    have d := rx_all hy
    have c3 : t < ((8 : Nat) : Int) := ho.1.2
    have hpu := hF.puts _ _ (hF.at hy)
    have hpa := hF.parts _ _ (hF.at hy)
    have hsm := hF.small
    by_cases e1 : y.x.parts = 1
    · have b1 : (y.x.parts == 1) = true := by rw [e1]; rfl
      rw [if_neg (fun c => c.2 e1)] at h
      simp only [go_sem, reduceCtorEq, Nat.reduceAdd, Nat.reduceMul, Nat.reduceLeDiff, Nat.reduceLT, Int.reduceLE, Int.reduceLT, Int.reduceEq, Nat.reduceBEq, Nat.reduceEqDiff]
      refine hof _ ?_
      simp only [go_sem, reduceCtorEq, Nat.reduceAdd, Nat.reduceMul, Nat.reduceLeDiff, Nat.reduceLT, Int.reduceLE, Int.reduceLT, Int.reduceEq, Nat.reduceBEq, Nat.reduceEqDiff, f.1, f.2.1, f.2.2, RG.cells, g.1, g.2.1, g.2.2, d.1, d.2.1, d.2.2.1, d.2.2.2.1, d.2.2.2.2.1, d.2.2.2.2.2.1, d.2.2.2.2.2.2.1, d.2.2.2.2.2.2.2, ho.1.1, c3, b1]
      exact h st R hR (RFr.refl _ _) rfl
    · have b1 : (y.x.parts == 1) = false := by simpa using e1
      rw [if_pos ⟨hb, e1⟩] at h
      simp only [go_sem, reduceCtorEq, Nat.reduceAdd, Nat.reduceMul, Nat.reduceLeDiff, Nat.reduceLT, Int.reduceLE, Int.reduceLT, Int.reduceEq, Nat.reduceBEq, Nat.reduceEqDiff]
      refine hof _ ?_
      simp only [go_sem, reduceCtorEq, Nat.reduceAdd, Nat.reduceMul, Nat.reduceLeDiff, Nat.reduceLT, Int.reduceLE, Int.reduceLT, Int.reduceEq, Nat.reduceBEq, Nat.reduceEqDiff, f.1, f.2.1, f.2.2, RG.cells, g.1, g.2.1, g.2.2, d.1, d.2.1, d.2.2.1, d.2.2.2.1, d.2.2.2.2.1, d.2.2.2.2.2.1, d.2.2.2.2.2.2.1, d.2.2.2.2.2.2.2, ho.1.1, c3, b1]
      refine awp_arr 9 3 0 rfl ?_
      simp only [go_sem]
      refine awp_own 10 3 0 rfl ?_
      simp only [go_sem]
      have hst : (st ++ [Ob.arr 0 3 []]).length = st.length + 1 := by simp
      have hR0 := hR.app [Ob.arr 0 3 [], Ob.tok 0]
      obtain ⟨s0, hs0⟩ : ∃ s0, s0 = st ++ [Ob.arr 0 3 []] ++ [Ob.tok 0] := ⟨_, rfl⟩
      have hs0' : s0 = st ++ [Ob.arr 0 3 [], Ob.tok 0] := by rw [hs0, List.append_assoc]; rfl
      rw [← hs0'] at hR0
      have a0 : s0[st.length]? = some (.arr 0 3 []) := by rw [hs0']; simp
      have a1 : s0[st.length + 1]? = some (.tok 0) := by rw [hs0', List.getElem?_append_right (by omega)]; simp
      rw [← hs0']
      refine awp_rounds [] (fun m e s => ∃ (k rv ov : Nat), k + m = y.x.puts.length ∧ RefAt s R ∧ RFr st R s R ∧ s[st.length]? = some (.arr rv 3 ((restR y.x.parts (y.x.puts.take k)).flatMap pwSV)) ∧ s[st.length + 1]? = some (.tok ov) ∧
        e = [.ptr R.id 0, i64 t, .sc (.bool keep), .any, .any, .any, .any, .any, i64 y.x.parts, .arr st.length rv (restR y.x.parts (y.x.puts.take k)).length, .slice (.own (st.length + 1) ov) 3 ((ownR y.x.parts (y.x.puts.take k)).map pwV), i64 k, .any, .any, .any, .any, .any, .any, .any, .any, .any, .any, .any, .any, .any, .any, .any, .any, .any, .any, .any, .any, .any, .any, .any, .any, .any, .any, .any, .any, .any, .any, .any, .any, .any, .any, .any, .any, .any, .any, .any, .any, .any, .any, .any, .any, .any, .any, .any, .any, .any, .any, .any, .any, .any, .any, .any, .any, .any, .any, .any, .any, .any, .any, .any, .any, .any, .any, .any, .any, .any, .any, .any, .any, .any, .any, .any, .any, .any, .any, .any, .any, .any, .any, .any, .any, .any, .any, .any, .any, .any, .any, .any, .any, .any, .any, .any, .any, .any, .any, .any, .any, .any, .any]) (n := y.x.puts.length) ?_ ⟨0, 0, 0, by omega, hR0.1, hR0.2, a0, a1, rfl⟩ ?_
      · repeat (first | exact leEnv_nil | refine leEnv_any _ ?_ | refine leEnv_same _ ?_ | refine leEnv_norm _ ?_)
      rintro m e s ⟨k, rv, ov, hkm, hRs, hFs, a0, a1, rfl⟩
      have f := cells_facts hRs.cells
      have g := cells_facts hRs.txs
      have v := arr_facts (hRs.puts _ _ hy)
      have w := arr_facts a0
      by_cases hlt : k < y.x.puts.length
      · have c1 : (k : Int) < (y.x.puts.length : Int) := by omega
        have c0 : (0 : Int) ≤ (k : Int) := by omega
        have hw := wrapS k (by omega)
        have hk : y.x.puts[k]? = some (y.x.puts.getD k default) := by simp [List.getD_eq_getElem?_getD, hlt]
        have ht : y.x.puts.take (k + 1) = y.x.puts.take k ++ [y.x.puts.getD k default] := by
          rw [List.take_succ_eq_append_getElem hlt]; simp [List.getD_eq_getElem?_getD, hlt]
        obtain ⟨p, hpd⟩ : ∃ p, p = y.x.puts.getD k default := ⟨_, rfl⟩
        rw [← hpd] at hk ht
        have q := pw_all hk
        have ha0 : (s ++ [Ob.cells (pwSV p)])[st.length]? = some (.arr rv 3 ((restR y.x.parts (y.x.puts.take k)).flatMap pwSV)) := get_app a0 _
        have ha1 : (s ++ [Ob.cells (pwSV p)])[st.length + 1]? = some (.tok ov) := get_app a1 _
        have hA := hRs.app [Ob.cells (pwSV p)]
        have hFA := hFs.trans hA.2
        have hlr : (restR y.x.parts (y.x.puts.take k)).length ≤ k := by
          have := List.length_filter_le (fun p : PW => !decide (p.part = y.x.parts)) (y.x.puts.take k)
          unfold restR; simp at this; omega
        have hlo : (ownR y.x.parts (y.x.puts.take k)).length ≤ k := by
          have := List.length_filter_le (fun p : PW => decide (p.part = y.x.parts)) (y.x.puts.take k)
          unfold ownR; simp at this; omega
        obtain ⟨s1, hs1⟩ : ∃ s1, s1 = s ++ [Ob.cells (pwSV p)] := ⟨_, rfl⟩
        rw [← hs1] at ha0 ha1 hA hFA
        have w1 := arr_facts ha0
        have tk := tokAt_eq (v' := ov) ha1
        have ap1 := app_puts (n := (restR y.x.parts (y.x.puts.take k)).length + 1) (by omega)
        have ap2 := app_puts (n := (ownR y.x.parts (y.x.puts.take k)).length + 1) (by omega)
        have htk : ((restR y.x.parts (y.x.puts.take k)).flatMap pwSV).take ((restR y.x.parts (y.x.puts.take k)).length * 3) = (restR y.x.parts (y.x.puts.take k)).flatMap pwSV := List.take_of_length_le (by rw [flat_len pw_z]; omega)
        have z1 := ref_out hR hA.1 hFA (Nat.le_refl _) (.arr (rv + 1) 3 ((restR y.x.parts (y.x.puts.take k)).flatMap pwSV ++ pwSV p))
        have z2 := ref_out hR hA.1 hFA (Nat.le_succ _) (.tok (ov + 1))
        have l0 := lt_of_get ha0
        have l1 := lt_of_get ha1
        have hse : s ++ [Ob.cells [i64 p.n, i64 p.v, i64 p.part]] = s1 := hs1.symm
        have hcell : s1[s.length]? = some (.cells (pwSV p)) := by rw [hs1]; simp
        have cf : inS s1 s.length = True ∧ isObj s1 s.length = True ∧ objAt s1 s.length = [i64 p.n, i64 p.v, i64 p.part] := cells_facts hcell
        by_cases e2 : p.part = y.x.parts
        · have b2 : (p.part == y.x.parts) = true := by simpa using e2
          have eo : ownR y.x.parts (y.x.puts.take (k + 1)) = ownR y.x.parts (y.x.puts.take k) ++ [p] := by rw [ht]; simp [ownR, e2]
          have er : restR y.x.parts (y.x.puts.take (k + 1)) = restR y.x.parts (y.x.puts.take k) := by rw [ht]; simp [restR, e2]
          simp only [go_sem, reduceCtorEq, Nat.reduceAdd, Nat.reduceMul, Nat.reduceLeDiff, Nat.reduceLT, Int.reduceLE, Int.reduceLT, Int.reduceEq, Nat.reduceBEq, Nat.reduceEqDiff, f.1, f.2.1, f.2.2, RG.cells, g.1, g.2.1, g.2.2, d.1, d.2.1, d.2.2.1, d.2.2.2.1, d.2.2.2.2.1, d.2.2.2.2.2.1, d.2.2.2.2.2.2.1, d.2.2.2.2.2.2.2, v.1, v.2.1, v.2.2.1, v.2.2.2, ho.1.1, c3, c1, c0, q.1, q.2.1, q.2.2, b2, hw, hse, tk, cf.1, cf.2.1, cf.2.2]
          refine ⟨ap2, m - 1, _, by omega, ?_, k + 1, rv, ov + 1, by omega, z2.1, z2.2, (List.getElem?_set_ne (by omega)).trans (by rw [er]; exact ha0), List.getElem?_set_self l1, rfl⟩
          rw [eo, er, List.map_append]
          repeat (first | exact leEnv_nil | refine leEnv_any _ ?_ | refine leEnv_same _ ?_ | refine leEnv_norm _ ?_)
        · have b2 : (p.part == y.x.parts) = false := by simpa using e2
          have eo : ownR y.x.parts (y.x.puts.take (k + 1)) = ownR y.x.parts (y.x.puts.take k) := by rw [ht]; simp [ownR, e2]
          have er : restR y.x.parts (y.x.puts.take (k + 1)) = restR y.x.parts (y.x.puts.take k) ++ [p] := by rw [ht]; simp [restR, e2]
          simp only [go_sem, reduceCtorEq, Nat.reduceAdd, Nat.reduceMul, Nat.reduceLeDiff, Nat.reduceLT, Int.reduceLE, Int.reduceLT, Int.reduceEq, Nat.reduceBEq, Nat.reduceEqDiff, f.1, f.2.1, f.2.2, RG.cells, g.1, g.2.1, g.2.2, d.1, d.2.1, d.2.2.1, d.2.2.2.1, d.2.2.2.2.1, d.2.2.2.2.2.1, d.2.2.2.2.2.2.1, d.2.2.2.2.2.2.2, v.1, v.2.1, v.2.2.1, v.2.2.2, ho.1.1, c3, c1, c0, q.1, q.2.1, q.2.2, b2, hw, hse, cf.1, cf.2.1, cf.2.2, w1.1, w1.2.1, w1.2.2.1, w1.2.2.2, htk, List.flatMap_cons, List.flatMap_nil]
          refine ⟨ap1, m - 1, _, by omega, ?_, k + 1, rv + 1, ov, by omega, z1.1, z1.2, (List.getElem?_set_self l0).trans (by rw [er, List.flatMap_append]; rfl), (List.getElem?_set_ne (by omega)).trans ha1, rfl⟩
          rw [eo, er, List.length_append]
          repeat (first | exact leEnv_nil | refine leEnv_any _ ?_ | refine leEnv_same _ ?_ | refine leEnv_norm _ ?_)
      · obtain rfl : k = y.x.puts.length := by omega
        rw [List.take_length] at a0 w
        obtain ⟨own, hown⟩ : ∃ own, own = ownR y.x.parts y.x.puts := ⟨_, rfl⟩
        obtain ⟨rest, hrest⟩ : ∃ rest, rest = restR y.x.parts y.x.puts := ⟨_, rfl⟩
        rw [← hown, ← hrest] at h
        rw [← hrest] at a0 w
        have hlr : rest.length ≤ y.x.puts.length := by rw [hrest]; exact List.length_filter_le _ _
        have hlo : own.length ≤ y.x.puts.length := by rw [hown]; exact List.length_filter_le _ _
        have hlro : rest.length + own.length ≤ y.x.puts.length := by
          have hsum : ∀ l : List PW, (restR y.x.parts l).length + (ownR y.x.parts l).length = l.length := by
            intro l
            unfold restR ownR
            induction l with
            | nil => rfl
            | cons a r ih =>
              simp only [List.filter_cons]
              by_cases c : a.part = y.x.parts <;> simp [c] <;> omega
          rw [hrest, hown, hsum]; exact Nat.le_refl _
        have hw8 : IntKind.i64.wrap (y.x.parts - 1) = y.x.parts - 1 := by rw [IntWalk.i64_in _ (by omega)]
        simp only [go_sem, reduceCtorEq, Nat.reduceAdd, Nat.reduceMul, Nat.reduceLeDiff, Nat.reduceLT, Int.reduceLE, Int.reduceLT, Int.reduceEq, Nat.reduceBEq, Nat.reduceEqDiff, f.1, f.2.1, f.2.2, RG.cells, g.1, g.2.1, g.2.2, d.1, d.2.1, d.2.2.1, d.2.2.2.1, d.2.2.2.2.1, d.2.2.2.2.2.1, d.2.2.2.2.2.2.1, d.2.2.2.2.2.2.2, v.1, v.2.1, v.2.2.1, v.2.2.2, ho.1.1, c3, Int.lt_irrefl, List.take_length]
        rw [← hown, ← hrest]
        refine awp_rounds [] (fun m e s => ∃ (k rv : Nat) (l : List PW), k + m = own.length ∧ RefAt s R ∧ RFr st R s R ∧ s[st.length]? = some (.arr rv 3 (l.flatMap pwSV)) ∧ l.length ≤ rest.length + k ∧
          (if keep then joinR y.x.parts own rest else rest) = (if keep then joinR y.x.parts (own.drop k) l else l) ∧
          e = [.ptr R.id 0, i64 t, .sc (.bool keep), .any, .any, .any, .any, .any, i64 y.x.parts, .arr st.length rv l.length, .slice (.own (st.length + 1) ov) 3 (own.map pwV), .any, .any, i64 k, .any, .any, .any, .any, .any, .any, .any, .any, .any, .any, .any, .any, .any, .any, .any, .any, .any, .any, .any, .any, .any, .any, .any, .any, .any, .any, .any, .any, .any, .any, .any, .any, .any, .any, .any, .any, .any, .any, .any, .any, .any, .any, .any, .any, .any, .any, .any, .any, .any, .any, .any, .any, .any, .any, .any, .any, .any, .any, .any, .any, .any, .any, .any, .any, .any, .any, .any, .any, .any, .any, .any, .any, .any, .any, .any, .any, .any, .any, .any, .any, .any, .any, .any, .any, .any, .any, .any, .any, .any, .any, .any, .any, .any, .any, .any, .any, .any, .any, .any, .any]) (n := own.length) ?_ ⟨0, rv, rest, by omega, hRs, hFs, a0, by omega, rfl, rfl⟩ ?_
        · repeat (first | exact leEnv_nil | refine leEnv_any _ ?_ | refine leEnv_same _ ?_ | refine leEnv_norm _ ?_)
        clear a0 w f g v hRs hFs a1
        rintro m e s ⟨k, rv, l, hkm, hRs, hFs, a0, hll, hj, rfl⟩
        have f := cells_facts hRs.cells
        have g := cells_facts hRs.txs
        have w := arr_facts a0
        by_cases hlt : k < own.length
        · have c1 : (k : Int) < (own.length : Int) := by omega
          have c0 : (0 : Int) ≤ (k : Int) := by omega
          have hw := wrapS k (by omega)
          have hko : (own.map pwV).getD k .any = pwV (own.getD k default) := by simp [List.getD_eq_getElem?_getD, hlt]
          have hd : own.drop k = own.getD k default :: own.drop (k + 1) := by
            rw [List.drop_eq_getElem_cons hlt]; simp [List.getD_eq_getElem?_getD, hlt]
          obtain ⟨p, hpd⟩ : ∃ p, p = own.getD k default := ⟨_, rfl⟩
          rw [← hpd] at hko hd
          have hput := rput_c a0 (by omega) p.n p.v (y.x.parts - 1)
          have hpl := putR_len l p.n p.v (y.x.parts - 1)
          have hpl2 : (putR l p.n p.v (y.x.parts - 1)).length ≤ rest.length + (k + 1) := by
            rw [hpl]; split <;> omega
          cases keep with
          | false =>
            have hL : (if false = true then joinR y.x.parts own rest else rest) = l := hj
            rw [hL] at h
            obtain ⟨y1, hy1⟩ : ∃ y1, y1 = ({ y with pid := st.length, pver := rv, x := { y.x with puts := l } } : RX) := ⟨_, rfl⟩
            have hx1 : (R.xs.set t.toNat y1)[t.toNat]? = some y1 := List.getElem?_set_self (lt_of_get hy)
            have d1 := rx_all hx1
            obtain ⟨s4, hs4⟩ : ∃ s4, s4 = s.set R.tid (.cells ((R.xs.set t.toNat y1).flatMap RX.cells)) := ⟨_, rfl⟩
            have hse : s.set R.tid (.cells ((R.xs.flatMap RX.cells).take (t.toNat * 8 + 3) ++ .arr st.length rv l.length :: i64 y.x.parts :: .sc (.bool y.x.commits) :: i64 y.x.stamp :: i64 y.x.done :: (R.xs.flatMap RX.cells).drop (t.toNat * 8 + 8))) = s4 := by
              rw [hs4]
              congr 2
              exact rx_put (y' := y1) hy 3 [.arr st.length rv l.length, i64 y.x.parts, .sc (.bool y.x.commits), i64 y.x.stamp, i64 y.x.done] rfl (by decide) (by rw [hy1]; rfl)
            have g4 : inS s4 R.tid = True ∧ isObj s4 R.tid = True ∧ objAt s4 R.tid = (R.xs.set t.toNat y1).flatMap RX.cells := cells_facts (by rw [hs4]; exact List.getElem?_set_self (lt_of_get hRs.txs))
            have f4 : inS s4 R.id = True ∧ isObj s4 R.id = True ∧ objAt s4 R.id = R.cells := cells_facts (by rw [hs4]; exact (List.getElem?_set_ne hR.ne.symm).trans hRs.cells)
            have key := ref_moved hR hRs hFs hy (Nat.le_refl _) a0 (y.x.parts - 1)
            simp only [go_sem, reduceCtorEq, Nat.reduceAdd, Nat.reduceMul, Nat.reduceLeDiff, Nat.reduceLT, Int.reduceLE, Int.reduceLT, Int.reduceEq, Nat.reduceBEq, Nat.reduceEqDiff, c1, f.1, f.2.1, f.2.2, RG.cells, g.1, g.2.1, g.2.2, d.1, d.2.1, d.2.2.1, d.2.2.2.1, d.2.2.2.2.1, d.2.2.2.2.2.1, d.2.2.2.2.2.2.1, d.2.2.2.2.2.2.2, ho.1.1, c3, hse, g4.1, g4.2.1, g4.2.2, f4.1, f4.2.1, f4.2.2, d1.2.2.2.2.1, d1.2.2.2.2.2.1, hw8]
            refine ⟨by rw [rx_len hRs]; omega, by rw [flat_len rx_z, List.length_set, hR.len]; omega, ?_⟩
            refine st_cells (rx_put (y' := { y1 with x := { y1.x with parts := y.x.parts - 1 } }) hx1 4 [i64 (y.x.parts - 1), .sc (.bool y1.x.commits), i64 y1.x.stamp, i64 y1.x.done] rfl (by decide) rfl) ?_
            rw [hs4, List.set_set, List.set_set, hy1]
            exact h _ _ key.1 key.2 (rabs_put R t _)
          | true =>
            simp only [if_true] at hj
            rw [hd] at hj
            have hj2 : joinR y.x.parts own rest = joinR y.x.parts (own.drop (k + 1)) (putR l p.n p.v (y.x.parts - 1)) := hj
            have z1 := ref_out hR hRs hFs (Nat.le_refl _) (.arr (pver rv l p.n (y.x.parts - 1)) 3 ((putR l p.n p.v (y.x.parts - 1)).flatMap pwSV))
            simp only [go_sem, reduceCtorEq, Nat.reduceAdd, Nat.reduceMul, Nat.reduceLeDiff, Nat.reduceLT, Int.reduceLE, Int.reduceLT, Int.reduceEq, Nat.reduceBEq, Nat.reduceEqDiff, c1]
            refine awp_drawT [] [0, 0, 0, 0, 0, 0, 0, 0, 0, 0, 0, 0, 0, 3, 2] (fun _ => True) Try.mixed rfl trivial ?_
            simp only [go_sem, reduceCtorEq, Nat.reduceAdd, Nat.reduceMul, Nat.reduceLeDiff, Nat.reduceLT, Int.reduceLE, Int.reduceLT, Int.reduceEq, Nat.reduceBEq, Nat.reduceEqDiff, drawU_n, drawU_0, drawU_1, drawU_2, drawU_3, isStore_s, c1, c0, Int.toNat_natCast, hko, hw8, pwV]
            refine ⟨_, _, hput _ ⟨rfl, rfl⟩, m - 1, _, by omega, ?_, k + 1, pver rv l p.n (y.x.parts - 1), putR l p.n p.v (y.x.parts - 1), by omega, z1.1, z1.2, List.getElem?_set_self (lt_of_get a0), hpl2, hj2, rfl⟩
            rw [hw]
            repeat (first | exact leEnv_nil | refine leEnv_any _ ?_ | refine leEnv_same _ ?_ | refine leEnv_norm _ ?_)
        · obtain rfl : k = own.length := by omega
          rw [List.drop_length] at hj
          cases keep with
          | false =>
            have hL : (if false = true then joinR y.x.parts own rest else rest) = l := hj
            rw [hL] at h
            obtain ⟨y1, hy1⟩ : ∃ y1, y1 = ({ y with pid := st.length, pver := rv, x := { y.x with puts := l } } : RX) := ⟨_, rfl⟩
            have hx1 : (R.xs.set t.toNat y1)[t.toNat]? = some y1 := List.getElem?_set_self (lt_of_get hy)
            have d1 := rx_all hx1
            obtain ⟨s4, hs4⟩ : ∃ s4, s4 = s.set R.tid (.cells ((R.xs.set t.toNat y1).flatMap RX.cells)) := ⟨_, rfl⟩
            have hse : s.set R.tid (.cells ((R.xs.flatMap RX.cells).take (t.toNat * 8 + 3) ++ .arr st.length rv l.length :: i64 y.x.parts :: .sc (.bool y.x.commits) :: i64 y.x.stamp :: i64 y.x.done :: (R.xs.flatMap RX.cells).drop (t.toNat * 8 + 8))) = s4 := by
              rw [hs4]
              congr 2
              exact rx_put (y' := y1) hy 3 [.arr st.length rv l.length, i64 y.x.parts, .sc (.bool y.x.commits), i64 y.x.stamp, i64 y.x.done] rfl (by decide) (by rw [hy1]; rfl)
            have g4 : inS s4 R.tid = True ∧ isObj s4 R.tid = True ∧ objAt s4 R.tid = (R.xs.set t.toNat y1).flatMap RX.cells := cells_facts (by rw [hs4]; exact List.getElem?_set_self (lt_of_get hRs.txs))
            have f4 : inS s4 R.id = True ∧ isObj s4 R.id = True ∧ objAt s4 R.id = R.cells := cells_facts (by rw [hs4]; exact (List.getElem?_set_ne hR.ne.symm).trans hRs.cells)
            have key := ref_moved hR hRs hFs hy (Nat.le_refl _) a0 (y.x.parts - 1)
            simp only [go_sem, reduceCtorEq, Nat.reduceAdd, Nat.reduceMul, Nat.reduceLeDiff, Nat.reduceLT, Int.reduceLE, Int.reduceLT, Int.reduceEq, Nat.reduceBEq, Nat.reduceEqDiff, Int.lt_irrefl, f.1, f.2.1, f.2.2, RG.cells, g.1, g.2.1, g.2.2, d.1, d.2.1, d.2.2.1, d.2.2.2.1, d.2.2.2.2.1, d.2.2.2.2.2.1, d.2.2.2.2.2.2.1, d.2.2.2.2.2.2.2, ho.1.1, c3, hse, g4.1, g4.2.1, g4.2.2, f4.1, f4.2.1, f4.2.2, d1.2.2.2.2.1, d1.2.2.2.2.2.1, hw8]
            refine ⟨by rw [rx_len hRs]; omega, by rw [flat_len rx_z, List.length_set, hR.len]; omega, ?_⟩
            refine st_cells (rx_put (y' := { y1 with x := { y1.x with parts := y.x.parts - 1 } }) hx1 4 [i64 (y.x.parts - 1), .sc (.bool y1.x.commits), i64 y1.x.stamp, i64 y1.x.done] rfl (by decide) rfl) ?_
            rw [hs4, List.set_set, List.set_set, hy1]
            exact h _ _ key.1 key.2 (rabs_put R t _)
          | true =>
            have hL : (if true = true then joinR y.x.parts own rest else rest) = l := hj
            rw [hL] at h
            obtain ⟨y1, hy1⟩ : ∃ y1, y1 = ({ y with pid := st.length, pver := rv, x := { y.x with puts := l } } : RX) := ⟨_, rfl⟩
            have hx1 : (R.xs.set t.toNat y1)[t.toNat]? = some y1 := List.getElem?_set_self (lt_of_get hy)
            have d1 := rx_all hx1
            obtain ⟨s4, hs4⟩ : ∃ s4, s4 = s.set R.tid (.cells ((R.xs.set t.toNat y1).flatMap RX.cells)) := ⟨_, rfl⟩
            have hse : s.set R.tid (.cells ((R.xs.flatMap RX.cells).take (t.toNat * 8 + 3) ++ .arr st.length rv l.length :: i64 y.x.parts :: .sc (.bool y.x.commits) :: i64 y.x.stamp :: i64 y.x.done :: (R.xs.flatMap RX.cells).drop (t.toNat * 8 + 8))) = s4 := by
              rw [hs4]
              congr 2
              exact rx_put (y' := y1) hy 3 [.arr st.length rv l.length, i64 y.x.parts, .sc (.bool y.x.commits), i64 y.x.stamp, i64 y.x.done] rfl (by decide) (by rw [hy1]; rfl)
            have g4 : inS s4 R.tid = True ∧ isObj s4 R.tid = True ∧ objAt s4 R.tid = (R.xs.set t.toNat y1).flatMap RX.cells := cells_facts (by rw [hs4]; exact List.getElem?_set_self (lt_of_get hRs.txs))
            have f4 : inS s4 R.id = True ∧ isObj s4 R.id = True ∧ objAt s4 R.id = R.cells := cells_facts (by rw [hs4]; exact (List.getElem?_set_ne hR.ne.symm).trans hRs.cells)
            have key := ref_moved hR hRs hFs hy (Nat.le_refl _) a0 (y.x.parts - 1)
            simp only [go_sem, reduceCtorEq, Nat.reduceAdd, Nat.reduceMul, Nat.reduceLeDiff, Nat.reduceLT, Int.reduceLE, Int.reduceLT, Int.reduceEq, Nat.reduceBEq, Nat.reduceEqDiff, Int.lt_irrefl, f.1, f.2.1, f.2.2, RG.cells, g.1, g.2.1, g.2.2, d.1, d.2.1, d.2.2.1, d.2.2.2.1, d.2.2.2.2.1, d.2.2.2.2.2.1, d.2.2.2.2.2.2.1, d.2.2.2.2.2.2.2, ho.1.1, c3, hse, g4.1, g4.2.1, g4.2.2, f4.1, f4.2.1, f4.2.2, d1.2.2.2.2.1, d1.2.2.2.2.2.1, hw8]
            refine ⟨by rw [rx_len hRs]; omega, by rw [flat_len rx_z, List.length_set, hR.len]; omega, ?_⟩
            refine st_cells (rx_put (y' := { y1 with x := { y1.x with parts := y.x.parts - 1 } }) hx1 4 [i64 (y.x.parts - 1), .sc (.bool y1.x.commits), i64 y1.x.stamp, i64 y1.x.done] rfl (by decide) rfl) ?_
            rw [hs4, List.set_set, List.set_set, hy1]
            exact h _ _ key.1 key.2 (rabs_put R t _)

end Go.Proofs
