/- The engine: Abort. -/
import Derived.Test.YteclbnjpijakbaaW9
set_option linter.unusedSimpArgs false
set_option linter.unusedVariables false
set_option maxRecDepth 8000
namespace Go.Proofs
open Go Go.AL

def unlock (t : Int) (v : TV) : TV := if v.lock = t then { v with lock := -1 } else v

def abortF (E : EP) (t : Int) : Int × EP := match E.of t with
  | some x => if x.pointed then (1, E) else (0, { E with vars := E.vars.map (unlock t), txs := E.txs.set t.toNat none })
  | none => (1, E)

/-- The vars of which the first k are turned. -/
def someVars (g : TV → TV) (k : Nat) (l : List TV) : List TV := (l.take k).map g ++ l.drop k

theorem someVars_len (g : TV → TV) (k : Nat) (l : List TV) : (someVars g k l).length = l.length := by
  simp [someVars]; omega
theorem someVars_get (g : TV → TV) {k : Nat} {l : List TV} (h : k < l.length) : (someVars g k l).getD k default = l.getD k default := by
  simp only [someVars, List.getD_eq_getElem?_getD]
  rw [List.getElem?_append_right (by simp; omega)]
  simp [Nat.min_eq_left (Nat.le_of_lt h)]
theorem someVars_succ (g : TV → TV) {k : Nat} {l : List TV} (h : k < l.length) : someVars g (k + 1) l = (someVars g k l).set k (g (l.getD k default)) := by
  simp only [someVars]
  rw [List.take_succ_eq_append_getElem h, List.map_append, List.append_assoc, List.set_append_right _ _ (by simp; omega)]
  congr 1
  have e1 : k - (l.take k |>.map g).length = 0 := by simp; omega
  rw [e1]
  have e2 : l.drop k = l[k] :: l.drop (k + 1) := List.drop_eq_getElem_cons h
  have e3 : l.getD k default = l[k] := by simp [List.getD_eq_getElem?_getD, h]
  rw [e2, e3]
  rfl
theorem someVars_all (g : TV → TV) (l : List TV) : someVars g l.length l = l.map g := by simp [someVars]
theorem someVars_0 (g : TV → TV) (l : List TV) : someVars g 0 l = l := by simp [someVars]

theorem set_getD {l : List TV} {k : Nat} (h : k < l.length) : l.set k (l.getD k default) = l := by
  refine List.ext_getElem? fun i => ?_
  by_cases e : k = i
  · subst e; rw [List.getElem?_set_self h]; simp [List.getD_eq_getElem?_getD, h]
  · rw [List.getElem?_set_ne e]
theorem vars_put2 {l : List TV} {k : Nat} (h : k < l.length) (z : Int) : (l.flatMap tvSV).take (k * 3 + 2) ++ i64 z :: (l.flatMap tvSV).drop (k * 3 + 3) = (l.set k { l.getD k default with lock := z }).flatMap tvSV := by
  induction l generalizing k with
  | nil => cases h
  | cons x r ih =>
    cases k with
    | zero => rfl
    | succ k =>
      have := ih (k := k) (by simpa using h)
      rw [show (k + 1) * 3 + 2 = (k * 3 + 2) + 3 by omega, show (k + 1) * 3 + 3 = (k * 3 + 3) + 3 by omega]
      simp only [List.set_cons_succ, List.flatMap_cons, List.getD_cons_succ]
      rw [← this]
      rfl
theorem vars_put {l : List TV} {k : Nat} (h : k < l.length) (v : TV) : (l.flatMap tvSV).take (k * 3) ++ (tvSV v ++ (l.flatMap tvSV).drop (k * 3 + 3)) = (l.set k v).flatMap tvSV := by
  induction l generalizing k with
  | nil => cases h
  | cons x r ih =>
    cases k with
    | zero => rfl
    | succ k =>
      have := ih (k := k) (by simpa using h)
      rw [show (k + 1) * 3 = (k * 3) + 3 by omega, show k * 3 + 3 + 3 = (k * 3 + 3) + 3 by omega]
      simp only [List.set_cons_succ, List.flatMap_cons]
      rw [← this]
      rfl
theorem cells_put {E : EG} {t : Nat} (h : t < E.txs.length) (o : Option TX) : E.cells.take (2 + t) ++ txSV o :: E.cells.drop (2 + (t + 1)) = ({ E with txs := E.txs.set t o } : EG).cells := by
  unfold EG.cells
  rw [show 2 + t = t + 1 + 1 by omega, show 2 + (t + 1) = (t + 1) + 1 + 1 by omega]
  simp only [List.take_succ_cons, List.drop_succ_cons, List.cons_append, List.map_set]
  congr 2
  rw [List.set_eq_take_append_cons_drop, if_pos (by simpa using h)]

/-- Some vars have turned, and one thread's transaction is gone. -/
theorem eng_gone {st s : St} {E : EG} (hE : EngAt st E) {t : Nat} (ht : t < 8) {vs : List TV} (hvs : vs.length = E.vars.length) (hlen : st.length ≤ s.length) (h1 : s[E.id]? = some (.cells (E.cells.take (2 + t) ++ .sc (.pointer none) :: E.cells.drop (2 + (t + 1)))))
    (h2 : s[E.vid]? = some (.arr E.vver 3 (vs.flatMap tvSV))) (ho : ∀ j, j ≠ E.id → j ≠ E.vid → (∀ x, E.txs[t]? = some (some x) → ¬ x.has j) → j < st.length → s[j]? = st[j]?) :
    EngAt s { E with vars := vs, txs := E.txs.set t none } ∧ Fr st E s { E with vars := vs, txs := E.txs.set t none } := by
  have hl := hE.len
  refine eng_upd hE ht none rfl rfl rfl ?_ h2 (by show vs.length ≤ 4000; rw [hvs]; exact hE.many) hlen ho (fun x' hx' => by cases hx')
  rw [h1]
  have := cells_put (E := E) (t := t) (by omega) none
  rw [show txSV none = SV.sc (.pointer none) from rfl] at this
  rw [this]
  simp only [EG.cells, hvs]

set_option maxHeartbeats 4000000 in
theorem abort_c {st : St} {E : EG} (hE : EngAt st E) (t : Int) (K : SV → St → Prop)
    (h : ∀ s E', EngAt s E' → Fr st E s E' → E'.abs = (abortF E.abs t).2 → K (i64 (abortF E.abs t).1) s) : ACalls Try.prog 21 [.ptr E.id 0, i64 t] K st := by
  have hof := of_c hE t
  have hab := abs_of E t
  unfold abortF at h
  rw [hab] at h
  cases hx : E.of t with
  | none =>
    rw [hx] at hof h
    refine acalls_go (M := []) Try.func21 rfl Try.results21 Try.ntmps21 ?_
    simp only [go_sem, reduceCtorEq, Nat.reduceAdd, Nat.reduceMul, Nat.reduceLeDiff, Nat.reduceLT, Int.reduceLE, Int.reduceLT, Int.reduceEq, Nat.reduceBEq, Nat.reduceEqDiff]
    refine hof _ ?_
    simp only [txSV, go_sem, reduceCtorEq, Nat.reduceAdd, Nat.reduceMul, Nat.reduceLeDiff, Nat.reduceLT, Int.reduceLE, Int.reduceLT, Int.reduceEq, Nat.reduceBEq, Nat.reduceEqDiff]
    exact h st E hE (Fr.refl _ _) rfl
  | some x =>
    rw [hx] at hof h
    simp only [Option.map_some] at h
    obtain ⟨hti, htx⟩ := of_some hx
    have ht : t.toNat < 8 := by omega
    have hT := hE.tx _ x htx
    have g := cells_facts hT.cells
    have f := cells_facts hE.cells
    have w := arr_facts hE.vars
    cases hp : x.pointed with
    | true =>
      rw [if_pos (show x.abs.pointed = true from hp)] at h
      refine acalls_go (M := []) Try.func21 rfl Try.results21 Try.ntmps21 ?_
      simp only [go_sem, reduceCtorEq, Nat.reduceAdd, Nat.reduceMul, Nat.reduceLeDiff, Nat.reduceLT, Int.reduceLE, Int.reduceLT, Int.reduceEq, Nat.reduceBEq, Nat.reduceEqDiff]
      refine hof _ ?_
      simp only [txSV, go_sem, reduceCtorEq, Nat.reduceAdd, Nat.reduceMul, Nat.reduceLeDiff, Nat.reduceLT, Int.reduceLE, Int.reduceLT, Int.reduceEq, Nat.reduceBEq, Nat.reduceEqDiff, g.1, g.2.1, g.2.2, TX.cells, hp]
      exact h st E hE (Fr.refl _ _) rfl
    | false =>
      rw [if_neg (show ¬ x.abs.pointed = true from by rw [show x.abs.pointed = x.pointed from rfl, hp]; decide)] at h
      refine acalls_go (M := []) Try.func21 rfl Try.results21 Try.ntmps21 ?_
      simp only [go_sem, reduceCtorEq, Nat.reduceAdd, Nat.reduceMul, Nat.reduceLeDiff, Nat.reduceLT, Int.reduceLE, Int.reduceLT, Int.reduceEq, Nat.reduceBEq, Nat.reduceEqDiff]
      refine hof _ ?_
      simp only [txSV, go_sem, reduceCtorEq, Nat.reduceAdd, Nat.reduceMul, Nat.reduceLeDiff, Nat.reduceLT, Int.reduceLE, Int.reduceLT, Int.reduceEq, Nat.reduceBEq, Nat.reduceEqDiff, g.1, g.2.1, g.2.2, TX.cells, hp, f.1, f.2.1, f.2.2, EG.cells, w.1, w.2.1, w.2.2.1, w.2.2.2]
      refine awp_rounds [] (fun m e s => ∃ (k : Nat), k + m = E.vars.length ∧ e = [.ptr E.id 0, i64 t, .any, .any, .any, .any, .any, .any, .any, .any, .any, .any, .any, .any, .any, .any, .any, .any, .any, .any, .any, .any, i64 E.vars.length, i64 k, .any, .any, .any, .any, .any, .any, .any, .any, .any, .any, .any, .any, .any, .any, .any, .any, .any, .any, .any, .any, .any, .any, .any, .any, .any] ∧ s = st.set E.vid (.arr E.vver 3 ((someVars (unlock t) k E.vars).flatMap tvSV))) (n := E.vars.length) ?_ ⟨0, by omega, rfl, ?_⟩ ?_
      · repeat (first | exact leEnv_nil | refine leEnv_any _ ?_ | refine leEnv_same _ ?_ | refine leEnv_norm _ ?_)
      · rw [someVars_0, st_same hE.vars]
      rintro m e s ⟨k, hkm, rfl, hs⟩
      have h1 : s[E.id]? = some (.cells E.cells) := by rw [hs, List.getElem?_set_ne hE.vidne.symm]; exact hE.cells
      have h2 : s[E.vid]? = some (.arr E.vver 3 ((someVars (unlock t) k E.vars).flatMap tvSV)) := by rw [hs, List.getElem?_set_self (lt_of_get hE.vars)]
      have f1 := cells_facts h1
      have w1 := arr_facts h2
      by_cases hlt : k < E.vars.length
      · have c1 : (k : Int) < (E.vars.length : Int) := by omega
        have hw := wrapS k (by have := hE.many; omega)
        have c2 : (0 : Int) ≤ (k : Int) := by omega
        have hv := vars_drop2 (l := someVars (unlock t) k E.vars) (n := k) (by rw [someVars_len]; exact hlt)
        rw [someVars_get _ hlt] at hv
        have hsu := someVars_succ (unlock t) hlt
        have hlt2 : k < (someVars (unlock t) k E.vars).length := by rw [someVars_len]; exact hlt
        have hgy := someVars_get (unlock t) hlt
        generalize someVars (unlock t) k E.vars = vs at *
        generalize hy : E.vars.getD k default = y at *
        simp only [go_sem, reduceCtorEq, Nat.reduceAdd, Nat.reduceMul, Nat.reduceLeDiff, Nat.reduceLT, Int.reduceLE, Int.reduceLT, Int.reduceEq, Nat.reduceBEq, Nat.reduceEqDiff, c1, c2, f1.1, f1.2.1, f1.2.2, EG.cells, w1.1, w1.2.1, w1.2.2.1, w1.2.2.2, hv, hw, Int.toNat_natCast]
        have hvk : k < vs.length := hlt2
        refine ⟨fun c => ⟨by rw [vars_len]; omega, m - 1, _, by omega, ?_, k + 1, by omega, rfl, ?_⟩, fun c => ⟨m - 1, _, by omega, ?_, k + 1, by omega, rfl, ?_⟩⟩
        · repeat (first | exact leEnv_nil | refine leEnv_any _ ?_ | refine leEnv_same _ ?_ | refine leEnv_norm _ ?_)
        · have e := vars_put2 hvk (-1)
          rw [show SV.sc (Value.int IntKind.i64 (-1)) = i64 (-1) from rfl, e, hs, List.set_set, hsu, hgy]
          have c' : y.lock = t := by simpa using c
          simp only [unlock, c', if_true]
        · repeat (first | exact leEnv_nil | refine leEnv_any _ ?_ | refine leEnv_same _ ?_ | refine leEnv_norm _ ?_)
        · have c' : ¬ y.lock = t := by simpa using c
          rw [hsu, hs]
          simp only [unlock, c', if_false]
          rw [← hgy, set_getD hvk]
      · obtain rfl : k = E.vars.length := by omega
        rw [someVars_all] at h2 hs
        simp only [go_sem, reduceCtorEq, Nat.reduceAdd, Nat.reduceMul, Nat.reduceLeDiff, Nat.reduceLT, Int.reduceLE, Int.reduceLT, Int.reduceEq, Nat.reduceBEq, Nat.reduceEqDiff, Int.lt_irrefl, f1.1, f1.2.1, f1.2.2, Nat.mul_one]
        refine ⟨⟨hti.1, hti.2⟩, by rw [cells_len E hE.len]; omega, ?_⟩
        have hlen : s.length = st.length := by rw [hs, List.length_set]
        have hgo : ∀ j, j ≠ E.vid → s[j]? = st[j]? := fun j hj => by rw [hs, List.getElem?_set_ne (Ne.symm hj)]
        have key := eng_gone (s := s.set E.id (.cells (E.cells.take (2 + t.toNat) ++ .sc (.pointer none) :: E.cells.drop (2 + (t.toNat + 1))))) (vs := E.vars.map (unlock t)) hE ht (by simp) (by simp [hlen])
          (List.getElem?_set_self (lt_of_get h1)) (by rw [List.getElem?_set_ne hE.vidne]; exact h2) (fun j q1 q2 _ _ => by rw [List.getElem?_set_ne (Ne.symm q1)]; exact hgo j q2)
        exact h _ _ key.1 key.2 (by simp only [EG.abs, List.map_set]; rfl)

end Go.Proofs
