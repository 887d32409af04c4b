/- The reference: Part, Make, New. -/
import Derived.Test.YteclbnjpijakbaaR1
set_option linter.unusedSimpArgs false
set_option linter.unusedVariables false
set_option maxRecDepth 8000
namespace Go.Proofs
open Go Go.AL

def partR (R : RP) (t : Int) : Int × RP := if R.opn t = true then (0, R.put t { R.get t with parts := (R.get t).parts + 1 }) else (1, R)

/-- One record's cells turn. -/
theorem rx_put {xs : List RX} {t : Nat} {y y' : RX} (h : xs[t]? = some y) (j : Nat) (v : List SV) (hv : v.length = 8 - j) (hj : j ≤ 8) (he : y.cells.take j ++ v = y'.cells) :
    (xs.flatMap RX.cells).take (t * 8 + j) ++ (v ++ (xs.flatMap RX.cells).drop (t * 8 + 8)) = (xs.set t y').flatMap RX.cells := by
  have := flat_put (f := RX.cells) rx_z (x' := y') h (j := j) (v := v) (by omega) (by rw [show j + v.length = 8 by omega, List.drop_of_length_le (by rw [rx_z]; omega), List.append_nil]; exact he)
  rwa [show j + v.length = 8 by omega] at this

theorem st_cells {P : St → Prop} {st : St} {i : Nat} {a b : List SV} (e : a = b) (h : P (st.set i (.cells b))) : P (st.set i (.cells a)) := e ▸ h
theorem rx_len {st : St} {R : RG} (hR : RefAt st R) : (R.xs.flatMap RX.cells).length = 64 := by rw [flat_len rx_z, hR.len]

/-- One record turns where it lies. -/
theorem ref_rec {st : St} {R : RG} (h : RefAt st R) {t : Nat} {y y' : RX} (hy : R.xs[t]? = some y) (h1 : y'.rid = y.rid) (h2 : y'.rver = y.rver) (h3 : y'.pid = y.pid) (h4 : y'.pver = y.pver) (h5 : y'.x.puts = y.x.puts) :
    RefAt (st.set R.tid (.cells ((R.xs.set t y').flatMap RX.cells))) (R.setX t y') ∧ RFr st R (st.set R.tid (.cells ((R.xs.set t y').flatMap RX.cells))) (R.setX t y') := by
  have r := h.rne hy
  have p := h.pne hy
  refine ref_upd h hy (y' := y') rfl rfl rfl rfl ?_ ?_ ?_ h.many (by simp) (fun j _ _ a _ _ _ => List.getElem?_set_ne (Ne.symm a)) ?_ ?_ (.inl h1) (.inl h3)
  · exact (List.getElem?_set_ne h.ne.symm).trans h.cells
  · exact (List.getElem?_set_ne h.ntv).trans h.vars
  · exact List.getElem?_set_self (lt_of_get h.txs)
  · rw [h1, h2, List.getElem?_set_ne r.2.2.symm]; exact h.tok _ _ hy
  · rw [h3, h4, h5, List.getElem?_set_ne p.2.2.symm]; exact h.puts _ _ hy

theorem obIds_set {n : Nat} {l : List SV} (h : ObIds n (.cells l)) : ∀ x ∈ l, Ids n x := by rwa [obIds_cells] at h

set_option maxHeartbeats 4000000 in
theorem rpart_c {st : St} {R : RG} (hR : RefAt st R) {b : Nat} (hF : FineR b R.abs) (t : Int) (K : SV → St → Prop)
    (h : ∀ s R', RefAt s R' → RFr st R s R' → R'.abs = (partR R.abs t).2 → K (i64 (partR R.abs t).1) s) : ACalls Try.prog 56 [.ptr R.id 0, i64 t] K st := by
  refine acalls_go (M := []) Try.func56 rfl Try.results56 Try.ntmps56 ?_
  have f := cells_facts hR.cells
  have g := cells_facts hR.txs
  have hof := ropen_c hR t
  unfold partR at h
  cases hb : R.abs.opn t with
  | false =>
    rw [hb] at hof h
    simp only [go_sem, reduceCtorEq, Nat.reduceAdd, Nat.reduceMul, Nat.reduceLeDiff, Nat.reduceLT, Int.reduceLE, Int.reduceLT, Int.reduceEq, Nat.reduceBEq, Nat.reduceEqDiff]
    refine hof _ ?_
    simp only [go_sem, reduceCtorEq, Nat.reduceAdd, Nat.reduceMul, Nat.reduceLeDiff, Nat.reduceLT, Int.reduceLE, Int.reduceLT, Int.reduceEq, Nat.reduceBEq, Nat.reduceEqDiff]
    exact h st R hR (RFr.refl _ _) rfl
  | true =>
    rw [hb] at hof h
    have ho := ropn_get hb
    obtain ⟨y, hy, hg⟩ := hR.at ho.1
    rw [hg] at h
    have d := rx_all hy
    have c3 : t < ((8 : Nat) : Int) := ho.1.2
    have hp := hF.parts _ _ (hF.at hy)
    have hw : IntKind.i64.wrap (y.x.parts + 1) = y.x.parts + 1 := by rw [IntWalk.i64_in _ (by have := hF.small; omega)]
    have key := ref_rec hR hy (y' := { y with x := { y.x with parts := y.x.parts + 1 } }) rfl rfl rfl rfl rfl
    simp only [go_sem, reduceCtorEq, Nat.reduceAdd, Nat.reduceMul, Nat.reduceLeDiff, Nat.reduceLT, Int.reduceLE, Int.reduceLT, Int.reduceEq, Nat.reduceBEq, Nat.reduceEqDiff]
    refine hof _ ?_
    simp only [go_sem, reduceCtorEq, Nat.reduceAdd, Nat.reduceMul, Nat.reduceLeDiff, Nat.reduceLT, Int.reduceLE, Int.reduceLT, Int.reduceEq, Nat.reduceBEq, Nat.reduceEqDiff, f.1, f.2.1, f.2.2, RG.cells, g.1, g.2.1, g.2.2, ho.1.1, c3, d.1, d.2.1, d.2.2.1, d.2.2.2.1, d.2.2.2.2.1, d.2.2.2.2.2.1, d.2.2.2.2.2.2.1, d.2.2.2.2.2.2.2, hw]
    refine ⟨by rw [rx_len hR]; omega, ?_⟩
    refine st_cells (rx_put (y' := { y with x := { y.x with parts := y.x.parts + 1 } }) hy 4 [i64 (y.x.parts + 1), .sc (.bool y.x.commits), i64 y.x.stamp, i64 y.x.done] rfl (by decide) rfl) ?_
    exact h _ _ key.1 key.2 (rabs_put R t _)

def makeR (R : RP) (v : Int) : (Int × Int) × RP := if R.vars.length < 4000 then (((R.vars.length : Int), 0), { R with vars := R.vars ++ [⟨v, 0, -1⟩] }) else ((0, 16), R)

theorem app_vars2 {n : Nat} (h : n ≤ 1000000) : AppOk Try.prog 52 52 3 n := appOk_of Try.aelem52 Try.aelem52 Try.asize69 Try.azero69 rfl Try.abytes69 (by omega) h

set_option maxHeartbeats 4000000 in
theorem rmake_c {st : St} {R : RG} (hR : RefAt st R) (v : Int) (K : SV → St → Prop)
    (h : ∀ s R', RefAt s R' → RFr st R s R' → R'.abs = (makeR R.abs v).2 → K (.tuple [i64 (makeR R.abs v).1.1, i64 (makeR R.abs v).1.2]) s) : ACalls Try.prog 45 [.ptr R.id 0, i64 v] K st := by
  refine acalls_go_mod [] Try.func45 rfl Try.results45 Try.ntmps45 ?_
  have f := cells_facts hR.cells
  have w := arr_facts hR.vars
  have hne := hR.nidv
  have hne' := hR.nidv.symm
  have hlt1 := lt_of_get hR.cells
  have hlt2 := lt_of_get hR.vars
  have hlt3 := lt_of_get hR.txs
  have hmany := hR.many
  by_cases c : R.vars.length < 4000
  · have cb : (4000 : Int) = (R.vars.length : Int) ↔ False := by simp; omega
    have cb' : ((R.vars.length : Int) == (4000 : Int)) = false := by simp; omega
    have hmk : makeR R.abs v = (((R.vars.length : Int), 0), { R.abs with vars := R.vars ++ [⟨v, 0, -1⟩] }) := by
      unfold makeR; rw [if_pos (show R.abs.vars.length < 4000 from c)]; rfl
    rw [hmk] at h
    have htk : (R.vars.flatMap tvSV).take (R.vars.length * 3) = R.vars.flatMap tvSV := List.take_of_length_le (by rw [vars_len]; omega)
    have happ := app_vars2 (n := R.vars.length + 1) (by omega)
    have hw1 : IntKind.i64.wrap (((R.vars.length + 1 : Nat) : Int) - 1) = (R.vars.length : Int) := by rw [IntWalk.i64_in _ (by omega)]; omega
    simp only [go_sem, reduceCtorEq, Nat.reduceAdd, Nat.reduceMul, Nat.reduceLeDiff, Nat.reduceLT, Int.reduceLE, Int.reduceLT, Int.reduceEq, Nat.reduceBEq, Nat.reduceEqDiff, f.1, f.2.1, f.2.2, RG.cells, w.1, w.2.1, w.2.2.1, w.2.2.2, cb', htk, hw1, hne, hne', List.flatMap_cons, List.flatMap_nil]
    have hs : Mod st ((st.set R.vid (.arr (R.vver + 1) 3 (R.vars.flatMap tvSV ++ [i64 v, i64 0, i64 (-1)]))).set R.id (.cells [i64 R.clock, .arr R.vid (R.vver + 1) (R.vars.length + 1), .slc R.tid 8 0 8 8])) := by
      refine ((Mod.refl st).set R.vid _ ?_).set R.id _ ?_
      · rw [obIds_arr]
        refine ids_i64s _ _ fun x hx => ?_
        rcases List.mem_append.1 hx with h1 | h1
        · exact vars_sc _ x h1
        · simp only [List.mem_cons, List.not_mem_nil, or_false] at h1
          rcases h1 with rfl | rfl | rfl <;> exact ⟨_, rfl⟩
      · rw [obIds_cells, List.length_set]
        intro x hx
        simp only [List.mem_cons, List.not_mem_nil, or_false] at hx
        rcases hx with rfl | rfl | rfl
        · exact .sc _
        · exact .arr _ _ _ hlt2
        · exact .slc _ _ _ _ _ hlt3
    have key := ref_core (s := (st.set R.vid (.arr (R.vver + 1) 3 (R.vars.flatMap tvSV ++ [i64 v, i64 0, i64 (-1)]))).set R.id (.cells [i64 R.clock, .arr R.vid (R.vver + 1) (R.vars.length + 1), .slc R.tid 8 0 8 8]))
      (R' := { R with vver := R.vver + 1, vars := R.vars ++ [⟨v, 0, -1⟩] }) hR rfl rfl rfl rfl (by rw [set_get (by simpa using hlt1)]; simp [RG.cells]) (by rw [List.getElem?_set_ne hne, set_get hlt2, List.flatMap_append]; rfl) (by simp; omega) (by simp)
      (fun j j1 j2 j3 => by rw [List.getElem?_set_ne (Ne.symm j1), List.getElem?_set_ne (Ne.symm j2)])
    exact ⟨happ, fin_tup20 hs (h _ _ key.1 key.2 rfl)⟩
  · have c4 : R.vars.length = 4000 := by omega
    have hmk : makeR R.abs v = ((0, 16), R.abs) := by
      unfold makeR; rw [if_neg (show ¬ R.abs.vars.length < 4000 from c)]
    rw [hmk] at h
    have cb' : ((R.vars.length : Int) == (4000 : Int)) = true := by simp; omega
    simp only [go_sem, reduceCtorEq, Nat.reduceAdd, Nat.reduceMul, Nat.reduceLeDiff, Nat.reduceLT, Int.reduceLE, Int.reduceLT, Int.reduceEq, Nat.reduceBEq, Nat.reduceEqDiff, f.1, f.2.1, f.2.2, RG.cells, w.1, w.2.1, w.2.2.1, w.2.2.2, cb']
    exact fin_tup20 (Mod.refl st) (h st R hR (RFr.refl _ _) rfl)

end Go.Proofs
