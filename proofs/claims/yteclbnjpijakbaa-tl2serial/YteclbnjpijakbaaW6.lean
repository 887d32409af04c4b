/- The engine: Part. -/
import Derived.Test.YteclbnjpijakbaaW5
set_option linter.unusedSimpArgs false
set_option maxRecDepth 8000
namespace Go.Proofs
open Go Go.AL

def partF (E : EP) (t : Int) : Int × EP := match E.opn t with
  | some x => (0, E.put t { x with maps := x.maps ++ [fun _ => none] })
  | none => (1, E)

theorem app_parts {n : Nat} (h : n ≤ 1000000) : AppOk Try.prog 93 93 1 n := appOk_of Try.aelem93 Try.aelem93 Try.asize92 Try.azero92 rfl Try.abytes92 (by omega) h

def EG.setTx (E : EG) (t : Nat) (x : TX) : EG := { E with txs := E.txs.set t (some x) }

theorem set_self {l : List (Option TX)} {t : Nat} {o : Option TX} (h : l[t]? = some o) : l.set t o = l := by
  refine List.ext_getElem? fun i => ?_
  by_cases e : t = i
  · subst e; rw [List.getElem?_set_self (lt_of_get h), h]
  · rw [List.getElem?_set_ne e]

theorem abs_put (E : EG) (t : Int) (x : TX) : (E.setTx t.toNat x).abs = E.abs.put t x.abs := by
  simp only [EG.abs, EG.setTx, List.map_set]; rfl

theorem eng_tx {st s : St} {E : EG} (hE : EngAt st E) {t : Nat} (ht : t < 8) {x : TX} (hx : E.txs[t]? = some (some x)) {x' : TX} (hid : x'.id = x.id) (hlen : st.length ≤ s.length)
    (ho : ∀ j, ¬ x.has j → j < st.length → s[j]? = st[j]?) (hT : TxAt s x') (hh : ∀ j, x'.has j → x.has j ∨ st.length ≤ j) : EngAt s (E.setTx t x') ∧ Fr st E s (E.setTx t x') := by
  have hcells : (E.setTx t x').cells = E.cells := by
    unfold EG.cells
    congr 2
    show (E.txs.set t (some x')).map txSV = _
    rw [List.map_set]
    have : txSV (some x') = txSV (some x) := by simp only [txSV, hid]
    rw [this, ← List.map_set, set_self hx]
  have n1 : ¬ x.has E.id := fun h => (hE.tx_ne hx h).1 rfl
  have n2 : ¬ x.has E.vid := fun h => (hE.tx_ne hx h).2 rfl
  refine eng_upd hE ht (some x') rfl rfl rfl (by rw [hcells, ho _ n1 (lt_of_get hE.cells)]; exact hE.cells) (by rw [ho _ n2 (lt_of_get hE.vars)]; exact hE.vars) hE.many hlen
    (fun j _ _ q3 q4 => ho j (q3 x hx) q4) fun y hy => ?_
  cases hy
  exact ⟨hT, fun j hj => (hh j hj).imp (fun h => ⟨x, hx, h⟩) fun h => h⟩

set_option maxHeartbeats 4000000 in
theorem part_c {st : St} {E : EG} (hE : EngAt st E) (hF : Fine E) (t : Int) (K : SV → St → Prop)
    (h : ∀ s E', EngAt s E' → Fr st E s E' → E'.abs = (partF E.abs t).2 → K (i64 (partF E.abs t).1) s) : ACalls Try.prog 13 [.ptr E.id 0, i64 t] K st := by
  have hopn := open_c hE t
  have hab := abs_opn E t
  unfold partF at h
  rw [hab] at h
  cases hx : E.opn t with
  | none =>
    rw [hx] at hopn h
    refine acalls_go_mod [] Try.func13 rfl Try.results13 Try.ntmps13 ?_
    simp only [go_sem, reduceCtorEq, Nat.reduceAdd, Nat.reduceMul, Nat.reduceLeDiff, Nat.reduceLT, Int.reduceLE, Int.reduceLT, Int.reduceEq, Nat.reduceBEq, Nat.reduceEqDiff]
    refine hopn _ ?_
    simp only [txSV, go_sem, reduceCtorEq, Nat.reduceAdd, Nat.reduceMul, Nat.reduceLeDiff, Nat.reduceLT, Int.reduceLE, Int.reduceLT, Int.reduceEq, Nat.reduceBEq, Nat.reduceEqDiff]
    exact fin_one (Mod.refl st) (h st E hE (Fr.refl _ _) rfl)
  | some x =>
    rw [hx] at hopn h
    obtain ⟨ht, htx⟩ := of_opn hx
    have hT := hE.tx _ x htx
    have h1 := hF.one _ x htx
    have h2 := (hF.reads _ x htx).2.2
    have g := cells_facts hT.cells
    obtain ⟨cs, hp, hle, htk⟩ := hT.parts
    have w := arr_facts hp
    have hlt1 := lt_of_get hT.cells
    have hlt2 := lt_of_get hp
    have hne : x.pid ≠ x.id := by intro e; rw [e, hT.cells] at hp; cases hp
    have happ := app_parts (n := x.mids.length + 1) (by omega)
    refine acalls_go (M := []) Try.func13 rfl Try.results13 Try.ntmps13 ?_
    simp only [go_sem, reduceCtorEq, Nat.reduceAdd, Nat.reduceMul, Nat.reduceLeDiff, Nat.reduceLT, Int.reduceLE, Int.reduceLT, Int.reduceEq, Nat.reduceBEq, Nat.reduceEqDiff]
    refine hopn _ ?_
    simp only [txSV, go_sem, reduceCtorEq, Nat.reduceAdd, Nat.reduceMul, Nat.reduceLeDiff, Nat.reduceLT, Int.reduceLE, Int.reduceLT, Int.reduceEq, Nat.reduceBEq, Nat.reduceEqDiff, g.1, g.2.1, g.2.2, TX.cells, w.1, w.2.1, w.2.2.1, w.2.2.2, htk, Nat.mul_one, hne, hne.symm, List.flatMap_cons, List.flatMap_nil, happ]
    have key := eng_tx (s := (st.set x.pid (.arr (x.pver + 1) 1 (x.mids.map SV.mp ++ [.mp st.length]))).set x.id (.cells { x with pver := x.pver + 1, mids := x.mids ++ [st.length], maps := x.maps ++ [[]] }.cells) ++ [.map []])
      hE ht htx (x' := { x with pver := x.pver + 1, mids := x.mids ++ [st.length], maps := x.maps ++ [[]] }) rfl (by simp) (fun j hj hlt => by
        rw [List.getElem?_append_left (by simpa using hlt), List.getElem?_set_ne (fun e => hj (.inl e.symm)), List.getElem?_set_ne (fun e => hj (.inr (.inr (.inl e.symm))))])
      ⟨by rw [List.getElem?_append_left (by simpa using hlt1), List.getElem?_set_self (by simpa using hlt1)],
       by
        have hlt := lt_of_get hT.tok
        have n1 : x.id ≠ x.rid := fun e => by have := hT.cells; rw [e, hT.tok] at this; cases this
        have n2 : x.pid ≠ x.rid := fun e => by rw [e, hT.tok] at hp; cases hp
        show (_ ++ _)[x.rid]? = _
        rw [List.getElem?_append_left (by simpa using hlt), List.getElem?_set_ne n1, List.getElem?_set_ne n2]
        exact hT.tok,
       ⟨x.mids.map SV.mp ++ [.mp st.length], by
        show (_ ++ _)[x.pid]? = _
        rw [List.getElem?_append_left (by simpa using hlt2), List.getElem?_set_ne hne.symm, List.getElem?_set_self hlt2], by simp, by rw [List.take_of_length_le (by simp)]; simp⟩,
       by simp [hT.len], fun i hi => by
        show (_ ++ _)[(x.mids ++ [st.length]).getD i 0]? = some (Ob.map (pmEs ((x.maps ++ [[]]).getD i [])))
        have hi' : i < x.mids.length + 1 := by simpa using hi
        by_cases e : i = x.mids.length
        · subst e
          have e1 : (x.mids ++ [st.length]).getD x.mids.length 0 = st.length := by simp [List.getD_eq_getElem?_getD]
          have e2 : (x.maps ++ [[]]).getD x.mids.length [] = [] := by simp [List.getD_eq_getElem?_getD, ← hT.len]
          rw [e1, e2]
          rw [List.getElem?_append_right (by simp)]; simp [pmEs]
        · have h5 := hT.maps i (by omega)
          have h6 := hT.ne_map h5
          have e1 : (x.mids ++ [st.length]).getD i 0 = x.mids.getD i 0 := by simp [List.getD_eq_getElem?_getD, List.getElem?_append_left (show i < x.mids.length by omega)]
          have e2 : (x.maps ++ [[]]).getD i [] = x.maps.getD i [] := by simp [List.getD_eq_getElem?_getD, List.getElem?_append_left (show i < x.maps.length by have := hT.len; omega)]
          rw [e1, e2, List.getElem?_append_left (by simpa using lt_of_get h5), List.getElem?_set_ne h6.1.symm, List.getElem?_set_ne h6.2.2.symm]
          exact h5,
       by
        show (x.mids ++ [st.length]).Nodup
        rw [List.nodup_append]
        refine ⟨hT.nodup, by simp, fun a ha b hb => ?_⟩
        simp only [List.mem_singleton] at hb
        subst hb
        obtain ⟨es, he⟩ := hT.map_mem ha
        have := lt_of_get he
        omega,
       fun m hm => by
        rcases List.mem_append.1 hm with h6 | h6
        · exact hT.keys _ h6
        · simp only [List.mem_singleton] at h6
          subst h6; simp⟩
      (fun j hj => by
        rcases hj with hj | hj | hj | hj
        · exact .inl (.inl hj)
        · exact .inl (.inr (.inl hj))
        · exact .inl (.inr (.inr (.inl hj)))
        · rcases List.mem_append.1 hj with h6 | h6
          · exact .inl (.inr (.inr (.inr h6)))
          · simp only [List.mem_singleton] at h6
            exact .inr (by omega))
    have h' : ∀ s E', EngAt s E' → Fr st E s E' → E'.abs = E.abs.put t { x.abs with maps := x.abs.maps ++ [fun _ => none] } → K (.sc (.int .i64 0)) s := h
    have := h' _ _ key.1 key.2 ((abs_put E t _).trans (by simp only [TX.abs, List.map_append]; rfl))
    simpa only [TX.cells, List.length_append, List.length_cons, List.length_nil, Nat.zero_add] using this

end Go.Proofs
