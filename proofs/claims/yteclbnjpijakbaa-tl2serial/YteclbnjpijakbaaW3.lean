/- The engine: Make, Begin, Write, Part. -/
import Derived.Test.YteclbnjpijakbaaW2
import Derived.Test.YteclbnjpijakbaaA8
set_option linter.unusedSimpArgs false
set_option maxRecDepth 8000
namespace Go.Proofs
open Go Go.AL

/-- The engine as it is without its places. -/
structure TP where
  start : Int
  stamp : Int
  reads : List Int
  maps : List FM
  commits : Bool
  pointed : Bool
  left : List Int
structure EP where
  clock : Int
  vars : List TV
  txs : List (Option TP)
def TX.abs (x : TX) : TP := ⟨x.start, x.stamp, x.reads, x.maps.map pmGet, x.commits, x.pointed, x.left⟩
def EG.abs (E : EG) : EP := ⟨E.clock, E.vars, E.txs.map (Option.map TX.abs)⟩

theorem fin_tup2 {K : SV → St → Prop} {st s : St} {a b : Value} (hs : Mod st s) (h : K (.tuple [.sc a, .sc b]) s) {ex : St} : FinM st K (.tuple [.sc a, .sc b]) (s ++ ex) :=
  ⟨s, ex, rfl, hs, by simp only [norm, List.map_cons, List.map_nil, norm1, go_sem], h⟩
theorem fin_tup20 {K : SV → St → Prop} {st s : St} {a b : Value} (hs : Mod st s) (h : K (.tuple [.sc a, .sc b]) s) : FinM st K (.tuple [.sc a, .sc b]) s :=
  ⟨s, [], by simp, hs, by simp only [norm, List.map_cons, List.map_nil, norm1, go_sem], h⟩
theorem fin_one {K : SV → St → Prop} {st s : St} {a : Value} (hs : Mod st s) (h : K (.sc a) s) : FinM st K (.sc a) s :=
  ⟨s, [], by simp, hs, .sc _, h⟩

def makeF (E : EP) (v : Int) : (Int × Int) × EP := if E.vars.length < 4000 then (((E.vars.length : Int), 0), { E with vars := E.vars ++ [⟨v, 0, -1⟩] }) else ((0, 16), E)

theorem ids_i64s (n : Nat) (l : List SV) (h : ∀ x ∈ l, ∃ v, x = .sc v) : ∀ x ∈ l, Ids n x := fun x hx => by
  obtain ⟨v, rfl⟩ := h x hx
  exact .sc v
theorem vars_sc (l : List TV) : ∀ x ∈ l.flatMap tvSV, ∃ v, x = SV.sc v := by
  intro x hx
  obtain ⟨v, _, hv⟩ := List.mem_flatMap.1 hx
  simp only [tvSV, List.mem_cons, List.not_mem_nil, or_false] at hv
  rcases hv with rfl | rfl | rfl <;> exact ⟨_, rfl⟩

theorem EngAt.vidne {st : St} {E : EG} (h : EngAt st E) : E.id ≠ E.vid := by
  intro e
  have h1 := h.cells
  rw [e, h.vars] at h1
  cases h1

theorem TxAt.of_same {st s : St} {x : TX} (h : TxAt st x) (hs : ∀ j, x.has j → s[j]? = st[j]?) : TxAt s x := by
  refine ⟨by rw [hs _ (.inl rfl)]; exact h.cells, by rw [hs _ (.inr (.inl rfl))]; exact h.tok, ?_, h.len, fun i hi => ?_, h.nodup, h.keys⟩
  · rw [hs _ (.inr (.inr (.inl rfl)))]; exact h.parts
  · have hm : x.mids.getD i 0 ∈ x.mids := by simp [List.getD_eq_getElem?_getD, hi]
    rw [hs _ (.inr (.inr (.inr hm)))]; exact h.maps i hi

/-- No place of a transaction is the engine's own. -/
theorem EngAt.tx_ne {st : St} {E : EG} (h : EngAt st E) {t : Nat} {x : TX} (hx : E.txs[t]? = some (some x)) {j : Nat} (hj : x.has j) : j ≠ E.id ∧ j ≠ E.vid := by
  have hT := h.tx t x hx
  have ho := h.own t x hx
  have hc := h.cells
  have hv := h.vars
  rcases hj with rfl | rfl | rfl | hm
  · refine ⟨ho.1, fun e => ?_⟩
    have := hT.cells; rw [e, hv] at this; cases this
  · refine ⟨fun e => ?_, fun e => ?_⟩
    · have := hT.tok; rw [e, hc] at this; cases this
    · have := hT.tok; rw [e, hv] at this; cases this
  · refine ⟨fun e => ?_, ho.2⟩
    obtain ⟨cs, h1, _⟩ := hT.parts
    rw [e, hc] at h1; cases h1
  · obtain ⟨i, hi⟩ := List.getElem?_of_mem hm
    have hlt := lt_of_get hi
    have := hT.maps i hlt
    rw [List.getD_eq_getElem?_getD, hi] at this
    refine ⟨fun e => ?_, fun e => ?_⟩
    · rw [Option.getD_some, e, hc] at this; cases this
    · rw [Option.getD_some, e, hv] at this; cases this


theorem eng_core {st s : St} {E E' : EG} (h : EngAt st E) (hid : E'.id = E.id) (hvid : E'.vid = E.vid) (htxs : E'.txs = E.txs) (h1 : s[E.id]? = some (.cells E'.cells)) (h2 : s[E.vid]? = some (.arr E'.vver 3 (E'.vars.flatMap tvSV)))
    (hm : E'.vars.length ≤ 4000) (hlen : st.length ≤ s.length) (ho : ∀ j, j ≠ E.id → j ≠ E.vid → j < st.length → s[j]? = st[j]?) : EngAt s E' ∧ Fr st E s E' := by
  have hlt : ∀ (t : Nat) (x : TX), E.txs[t]? = some (some x) → ∀ j, x.has j → j < st.length := by
    intro t x hx j hj
    have hT := h.tx t x hx
    rcases hj with rfl | rfl | rfl | hm
    · exact lt_of_get hT.cells
    · exact lt_of_get hT.tok
    · obtain ⟨cs, h1, _⟩ := hT.parts; exact lt_of_get h1
    · obtain ⟨i, hi⟩ := List.getElem?_of_mem hm
      have hl := lt_of_get hi
      have := hT.maps i hl
      rw [List.getD_eq_getElem?_getD, hi] at this
      exact lt_of_get this
  refine ⟨⟨by rw [hid]; exact h1, by rw [hvid]; exact h2, by rw [htxs]; exact h.len, hm, fun t x hx => ?_, by rw [htxs]; exact h.apart, by rw [htxs, hid, hvid]; exact h.own⟩,
    ⟨hlen, fun j hj hn => ?_, fun j hj => .inl ?_, hid⟩⟩
  · rw [htxs] at hx
    exact (h.tx t x hx).of_same fun j hj => ho j (h.tx_ne hx hj).1 (h.tx_ne hx hj).2 (hlt t x hx j hj)
  · exact ho j (fun e => hn (.inl e)) (fun e => hn (.inr (.inl e))) hj
  · unfold EG.has at hj ⊢
    rwa [hid, hvid, htxs] at hj

theorem ids_txs {st : St} {E : EG} (h : EngAt st E) : ∀ x ∈ E.txs.map txSV, Ids st.length x := by
  intro x hx
  obtain ⟨o, ho, rfl⟩ := List.mem_map.1 hx
  obtain ⟨i, hi⟩ := List.getElem?_of_mem ho
  cases o with
  | none => exact .sc _
  | some y => exact h.ids hi

theorem app_vars {n : Nat} (h : n ≤ 1000000) : AppOk Try.prog 88 88 3 n := appOk_of Try.aelem88 Try.aelem88 Try.asize106 Try.azero106 rfl Try.abytes106 (by omega) h

set_option maxHeartbeats 4000000 in
theorem make_c {st : St} {E : EG} (hE : EngAt st E) (v : Int) (K : SV → St → Prop)
    (h : ∀ s E', EngAt s E' → Fr st E s E' → E'.abs = (makeF E.abs v).2 → K (.tuple [i64 (makeF E.abs v).1.1, i64 (makeF E.abs v).1.2]) s) : ACalls Try.prog 44 [.ptr E.id 0, i64 v] K st := by
  refine acalls_go_mod [] Try.func44 rfl Try.results44 Try.ntmps44 ?_
  have f := cells_facts hE.cells
  have w := arr_facts hE.vars
  have hne := hE.vidne
  have hne' := hE.vidne.symm
  have hlt1 := lt_of_get hE.cells
  have hlt2 := lt_of_get hE.vars
  have hmany := hE.many
  by_cases c : E.vars.length < 4000
  · have cb : (4000 : Int) ≤ (E.vars.length : Int) ↔ False := by simp; omega
    have hmk : makeF E.abs v = (((E.vars.length : Int), 0), { E.abs with vars := E.vars ++ [⟨v, 0, -1⟩] }) := by
      unfold makeF; rw [if_pos (show E.abs.vars.length < 4000 from c)]; rfl
    rw [hmk] at h
    have htk : (E.vars.flatMap tvSV).take (E.vars.length * 3) = E.vars.flatMap tvSV := List.take_of_length_le (by rw [vars_len]; omega)
    have happ := app_vars (n := E.vars.length + 1) (by omega)
    have hw1 : IntKind.i64.wrap (((E.vars.length + 1 : Nat) : Int) - 1) = (E.vars.length : Int) := by rw [IntWalk.i64_in _ (by omega)]; omega
    simp only [go_sem, reduceCtorEq, Nat.reduceAdd, Nat.reduceMul, Nat.reduceLeDiff, Nat.reduceLT, Int.reduceLE, Int.reduceLT, Int.reduceEq, Nat.reduceBEq, Nat.reduceEqDiff, f.1, f.2.1, f.2.2, w.1, w.2.1, w.2.2.1, w.2.2.2, EG.cells, cb, htk, hw1, hne, hne', List.flatMap_cons, List.flatMap_nil]
    have hs : Mod st ((st.set E.vid (.arr (E.vver + 1) 3 (E.vars.flatMap tvSV ++ [i64 v, i64 0, i64 (-1)]))).set E.id (.cells (i64 E.clock :: .arr E.vid (E.vver + 1) (E.vars.length + 1) :: E.txs.map txSV))) := by
      refine ((Mod.refl st).set E.vid _ ?_).set E.id _ ?_
      · rw [obIds_arr]
        refine ids_i64s _ _ fun x hx => ?_
        rcases List.mem_append.1 hx with h1 | h1
        · exact vars_sc _ x h1
        · simp only [List.mem_cons, List.not_mem_nil, or_false] at h1
          rcases h1 with rfl | rfl | rfl <;> exact ⟨_, rfl⟩
      · rw [obIds_cells, List.length_set]
        intro x hx
        rcases List.mem_cons.1 hx with rfl | hx
        · exact .sc _
        rcases List.mem_cons.1 hx with rfl | hx
        · exact .arr _ _ _ hlt2
        exact ids_txs hE x hx
    have key := eng_core (s := (st.set E.vid (.arr (E.vver + 1) 3 (E.vars.flatMap tvSV ++ [i64 v, i64 0, i64 (-1)]))).set E.id (.cells (i64 E.clock :: .arr E.vid (E.vver + 1) (E.vars.length + 1) :: E.txs.map txSV)))
      (E' := { E with vver := E.vver + 1, vars := E.vars ++ [⟨v, 0, -1⟩] }) hE rfl rfl rfl (by rw [set_get (by simpa using hlt1)]; simp [EG.cells]) (by rw [List.getElem?_set_ne hne, set_get hlt2, List.flatMap_append]; rfl) (by simp; omega) (by simp)
      (fun j j1 j2 j3 => by rw [List.getElem?_set_ne (Ne.symm j1), List.getElem?_set_ne (Ne.symm j2)])
    exact ⟨happ, fin_tup20 hs (h _ _ key.1 key.2 rfl)⟩
  · have c4 : E.vars.length = 4000 := by omega
    have hmk : makeF E.abs v = ((0, 16), E.abs) := by
      unfold makeF; rw [if_neg (show ¬ E.abs.vars.length < 4000 from c)]
    rw [hmk] at h
    have cb : (4000 : Int) ≤ (E.vars.length : Int) ↔ True := by simp; omega
    simp only [go_sem, reduceCtorEq, Nat.reduceAdd, Nat.reduceMul, Nat.reduceLeDiff, Nat.reduceLT, Int.reduceLE, Int.reduceLT, Int.reduceEq, Nat.reduceBEq, Nat.reduceEqDiff, f.1, f.2.1, f.2.2, w.1, w.2.1, w.2.2.1, w.2.2.2, EG.cells, cb]
    exact fin_tup20 (Mod.refl st) (h st E hE (Fr.refl _ _) rfl)


theorem TxAt.has_lt {st : St} {x : TX} (hT : TxAt st x) {j : Nat} (hj : x.has j) : j < st.length := by
  rcases hj with rfl | rfl | rfl | hm
  · exact lt_of_get hT.cells
  · exact lt_of_get hT.tok
  · obtain ⟨cs, h1, _⟩ := hT.parts; exact lt_of_get h1
  · obtain ⟨i, hi⟩ := List.getElem?_of_mem hm
    have := hT.maps i (lt_of_get hi)
    rw [List.getD_eq_getElem?_getD, hi] at this
    exact lt_of_get this

theorem TxAt.map_mem {st : St} {x : TX} (hT : TxAt st x) {m : Nat} (hm : m ∈ x.mids) : ∃ es, st[m]? = some (.map es) := by
  obtain ⟨i, hi⟩ := List.getElem?_of_mem hm
  have := hT.maps i (lt_of_get hi)
  rw [List.getD_eq_getElem?_getD, hi] at this
  exact ⟨_, this⟩

/-- What one thread has no other one has. -/
theorem EngAt.disj {st : St} {E : EG} (h : EngAt st E) {t t' : Nat} {x y : TX} (hx : E.txs[t]? = some (some x)) (hy : E.txs[t']? = some (some y)) (hne : t ≠ t') {j : Nat} (h1 : x.has j) (h2 : y.has j) : False := by
  have hX := h.tx t x hx
  have hY := h.tx t' y hy
  obtain ⟨a1, a2, a3, a4⟩ := h.apart t t' x y hx hy hne
  obtain ⟨cs, p1, _⟩ := hX.parts
  obtain ⟨cs', p2, _⟩ := hY.parts
  rcases h1 with e1 | e1 | e1 | m1 <;> rcases h2 with e2 | e2 | e2 | m2
  · exact a1 (e1.symm.trans e2)
  · have := hX.cells; rw [← e1, e2, hY.tok] at this; cases this
  · have := hX.cells; rw [← e1, e2, p2] at this; cases this
  · obtain ⟨es, q⟩ := hY.map_mem m2; have := hX.cells; rw [← e1, q] at this; cases this
  · have := hX.tok; rw [← e1, e2, hY.cells] at this; cases this
  · exact a2 (e1.symm.trans e2)
  · have := hX.tok; rw [← e1, e2, p2] at this; cases this
  · obtain ⟨es, q⟩ := hY.map_mem m2; have := hX.tok; rw [← e1, q] at this; cases this
  · rw [← e1, e2, hY.cells] at p1; cases p1
  · rw [← e1, e2, hY.tok] at p1; cases p1
  · exact a3 (e1.symm.trans e2)
  · obtain ⟨es, q⟩ := hY.map_mem m2; rw [← e1, q] at p1; cases p1
  · obtain ⟨es, q⟩ := hX.map_mem m1; rw [e2, hY.cells] at q; cases q
  · obtain ⟨es, q⟩ := hX.map_mem m1; rw [e2, hY.tok] at q; cases q
  · obtain ⟨es, q⟩ := hX.map_mem m1; rw [e2, p2] at q; cases q
  · exact a4 j m1 m2

theorem eng_upd {st s : St} {E E' : EG} (h : EngAt st E) {t : Nat} (ht : t < 8) (o' : Option TX) (hid : E'.id = E.id) (hvid : E'.vid = E.vid) (htxs : E'.txs = E.txs.set t o') (h1 : s[E.id]? = some (.cells E'.cells)) (h2 : s[E.vid]? = some (.arr E'.vver 3 (E'.vars.flatMap tvSV)))
    (hm : E'.vars.length ≤ 4000) (hlen : st.length ≤ s.length) (ho : ∀ j, j ≠ E.id → j ≠ E.vid → (∀ x, E.txs[t]? = some (some x) → ¬ x.has j) → j < st.length → s[j]? = st[j]?)
    (hx' : ∀ x', o' = some x' → TxAt s x' ∧ ∀ j, x'.has j → (∃ x, E.txs[t]? = some (some x) ∧ x.has j) ∨ st.length ≤ j) : EngAt s E' ∧ Fr st E s E' := by
  have hl := h.len
  have hget : ∀ (u : Nat) (y : TX), E'.txs[u]? = some (some y) → (u = t ∧ o' = some y) ∨ (u ≠ t ∧ E.txs[u]? = some (some y)) := by
    intro u y hy
    rw [htxs] at hy
    by_cases e : u = t
    · subst e
      rw [List.getElem?_set_self (by omega)] at hy
      exact .inl ⟨rfl, by simpa using hy⟩
    · rw [List.getElem?_set_ne (Ne.symm e)] at hy
      exact .inr ⟨e, hy⟩
  have hnew : ∀ x', o' = some x' → ∀ (u : Nat) (y : TX), u ≠ t → E.txs[u]? = some (some y) → ∀ j, x'.has j → ¬ y.has j := by
    intro x' hx u y hu hy j hj hj2
    rcases (hx' x' hx).2 j hj with ⟨x, h3, h4⟩ | h3
    · exact h.disj h3 hy (Ne.symm hu) h4 hj2
    · have := (h.tx u y hy).has_lt hj2; omega
  have hself : ∀ (y : TX), y.has y.id ∧ y.has y.rid ∧ y.has y.pid ∧ ∀ m ∈ y.mids, y.has m := fun y => ⟨.inl rfl, .inr (.inl rfl), .inr (.inr (.inl rfl)), fun m hm => .inr (.inr (.inr hm))⟩
  have hap : ∀ x y : TX, (∀ j, x.has j → ¬ y.has j) → x.id ≠ y.id ∧ x.rid ≠ y.rid ∧ x.pid ≠ y.pid ∧ ∀ m ∈ x.mids, m ∉ y.mids := by
    intro x y hd
    obtain ⟨a1, a2, a3, a4⟩ := hself x
    obtain ⟨b1, b2, b3, b4⟩ := hself y
    exact ⟨fun e => hd _ a1 (e ▸ b1), fun e => hd _ a2 (e ▸ b2), fun e => hd _ a3 (e ▸ b3), fun m hm hn => hd m (a4 m hm) (b4 m hn)⟩
  have hlt1 := lt_of_get h.cells
  have hlt2 := lt_of_get h.vars
  refine ⟨⟨by rw [hid]; exact h1, by rw [hvid]; exact h2, by rw [htxs]; simpa using hl, hm, fun u y hy => ?_, fun u u' y y' hy hy' hne => ?_, fun u y hy => ?_⟩, ⟨hlen, fun j hj hn => ?_, fun j hj => ?_, hid⟩⟩
  · rcases hget u y hy with ⟨_, e⟩ | ⟨e, hy'⟩
    · exact (hx' y e).1
    · exact (h.tx u y hy').of_same fun j hj => ho j (h.tx_ne hy' hj).1 (h.tx_ne hy' hj).2 (fun x hx hxj => h.disj hx hy' (Ne.symm e) hxj hj) ((h.tx u y hy').has_lt hj)
  · rcases hget u y hy with ⟨e, f⟩ | ⟨e, f⟩ <;> rcases hget u' y' hy' with ⟨e', f'⟩ | ⟨e', f'⟩
    · omega
    · exact hap y y' (hnew y f u' y' e' f')
    · refine hap y y' fun j hj hj' => hnew y' f' u y e f j hj' hj
    · exact h.apart u u' y y' f f' hne
  · rcases hget u y hy with ⟨e, f⟩ | ⟨e, f⟩
    · rw [hid, hvid]
      refine ⟨fun q => ?_, fun q => ?_⟩
      · rcases (hx' y f).2 y.id (hself y).1 with ⟨x, h3, h4⟩ | h3
        · exact (h.tx_ne h3 h4).1 q
        · omega
      · rcases (hx' y f).2 y.pid (hself y).2.2.1 with ⟨x, h3, h4⟩ | h3
        · exact (h.tx_ne h3 h4).2 q
        · omega
    · rw [hid, hvid]; exact h.own u y f
  · exact ho j (fun e => hn (.inl e)) (fun e => hn (.inr (.inl e))) (fun x hx hxj => hn (.inr (.inr ⟨t, x, hx, hxj⟩))) hj
  · rcases hj with e | e | ⟨u, y, hy, hyj⟩
    · exact .inl (.inl (by rw [← hid]; exact e))
    · exact .inl (.inr (.inl (by rw [← hvid]; exact e)))
    · rcases hget u y hy with ⟨_, f⟩ | ⟨_, f⟩
      · rcases (hx' y f).2 j hyj with ⟨x, h3, h4⟩ | h3
        · exact .inl (.inr (.inr ⟨t, x, h3, h4⟩))
        · exact .inr h3
      · exact .inl (.inr (.inr ⟨u, y, f, hyj⟩))

end Go.Proofs
