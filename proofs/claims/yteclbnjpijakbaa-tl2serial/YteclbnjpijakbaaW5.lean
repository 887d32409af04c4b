/- The engine: last, Write, Part. -/
import Derived.Test.YteclbnjpijakbaaW4
set_option linter.unusedSimpArgs false
set_option maxRecDepth 8000
namespace Go.Proofs
open Go Go.AL

def EP.of (E : EP) (t : Int) : Option TP := if 0 ≤ t ∧ t < 8 then (E.txs[t.toNat]?).join else none
def EP.opn (E : EP) (t : Int) : Option TP := match E.of t with | some x => if x.commits then none else some x | none => none
def EP.is (E : EP) (n : Int) : Bool := decide (0 ≤ n) && decide (n < (E.vars.length : Int))
def EP.put (E : EP) (t : Int) (x : TP) : EP := { E with txs := E.txs.set t.toNat (some x) }

theorem abs_of (E : EG) (t : Int) : E.abs.of t = (E.of t).map TX.abs := by
  unfold EP.of EG.of
  split
  · exact abs_get E _
  · rfl
theorem abs_opn (E : EG) (t : Int) : E.abs.opn t = (E.opn t).map TX.abs := by
  unfold EP.opn EG.opn
  rw [abs_of]
  cases E.of t with
  | none => rfl
  | some x =>
    show (if x.commits then none else some x.abs) = _
    cases hc : x.commits <;> simp [hc]
theorem abs_is (E : EG) (n : Int) : E.abs.is n = E.is n := rfl

/-- The last map of a transaction. -/
def TX.top (x : TX) : Nat := x.mids.getD (x.mids.length - 1) 0

theorem ev_nilmap (env : List SV) : ev env (.const (.map none)) = .sc (.map none) := rfl

theorem last_c {st : St} {x : TX} (hx : TxAt st x) (h1 : 1 ≤ x.mids.length) (h2 : x.mids.length ≤ 100000) (K : SV → St → Prop) (h : K (.mp x.top) st) : ACalls Try.prog 48 [.ptr x.id 0] K st := by
  refine acalls_go_pure [] Try.func48 rfl Try.results48 Try.ntmps48 ?_
  have g := cells_facts hx.cells
  obtain ⟨cs, hp, hle, htk⟩ := hx.parts
  have w := arr_facts hp
  have hm : x.mids.getD (x.mids.length - 1) 0 ∈ x.mids := by simp [List.getD_eq_getElem?_getD, show x.mids.length - 1 < x.mids.length by omega]
  have hlt : x.top < st.length := by
    obtain ⟨es, he⟩ := hx.map_mem hm
    exact lt_of_get he
  have hw1 : IntKind.i64.wrap ((x.mids.length : Int) - 1) = ((x.mids.length - 1 : Nat) : Int) := by rw [IntWalk.i64_in _ (by omega)]; omega
  have hd : cs.drop (x.mids.length - 1) = .mp x.top :: cs.drop x.mids.length := by
    rw [List.drop_eq_getElem_cons (by omega), show x.mids.length - 1 + 1 = x.mids.length by omega]
    congr 1
    have h3 : (cs.take x.mids.length)[x.mids.length - 1]? = (x.mids.map SV.mp)[x.mids.length - 1]? := by rw [htk]
    rw [List.getElem?_take_of_lt (by omega), List.getElem?_eq_getElem (by omega), List.getElem?_map, List.getElem?_eq_getElem (by omega)] at h3
    simp only [Option.map_some, Option.some.injEq] at h3
    rw [h3]
    simp [TX.top, List.getD_eq_getElem?_getD, show x.mids.length - 1 < x.mids.length by omega]
  have hlt3 : ((x.mids.length - 1 : Nat) : Int) < (x.mids.length : Int) := by omega
  simp only [go_sem, reduceCtorEq, Nat.reduceAdd, Nat.reduceMul, Nat.reduceLeDiff, Nat.reduceLT, Int.reduceLE, Int.reduceLT, Int.reduceEq, Nat.reduceBEq, Nat.reduceEqDiff, g.1, g.2.1, g.2.2, TX.cells, w.1, w.2.1, w.2.2.1, w.2.2.2, hw1, hd, hlt3, Nat.mul_one]
  rw [ev_nilmap]
  refine awp_draw [] Try.mixed rfl ?_
  simp only [go_sem, reduceCtorEq, Nat.reduceAdd, Nat.reduceMul, Nat.reduceLeDiff, Nat.reduceLT, Int.reduceLE, Int.reduceLT, Int.reduceEq, Nat.reduceBEq, Nat.reduceEqDiff, g.1, g.2.1, g.2.2, TX.cells, w.1, w.2.1, w.2.2.1, w.2.2.2, hw1, hd, hlt3, Nat.mul_one]
  exact ⟨⟨[], by simp⟩, .mp _ hlt, h⟩

theorem of_opn {E : EG} {t : Int} {x : TX} (h : E.opn t = some x) : t.toNat < 8 ∧ E.txs[t.toNat]? = some (some x) := by
  have h1 := of_some (opn_some h).1
  exact ⟨by omega, h1.2⟩

theorem top_mem {x : TX} (h1 : 1 ≤ x.mids.length) : x.top ∈ x.mids := by simp [TX.top, List.getD_eq_getElem?_getD, show x.mids.length - 1 < x.mids.length by omega]

/-- The last map of a transaction is another one. -/
def TX.setTop (x : TX) (m : PMap) : TX := { x with maps := x.maps.set (x.maps.length - 1) m }
def TX.topM (x : TX) : PMap := x.maps.getD (x.maps.length - 1) []
def TP.top (x : TP) : FM := x.maps.getD (x.maps.length - 1) (fun _ => none)
def TP.setTop (x : TP) (m : FM) : TP := { x with maps := x.maps.set (x.maps.length - 1) m }

theorem top_at {st : St} {x : TX} (hx : TxAt st x) (h1 : 1 ≤ x.mids.length) : st[x.top]? = some (.map (pmEs x.topM)) := by
  have := hx.maps (x.mids.length - 1) (by omega)
  rw [← hx.len] at this
  unfold TX.top
  rw [← hx.len]
  exact this

theorem getD_inj {l : List Nat} (h : l.Nodup) {i j : Nat} (hi : i < l.length) (hj : j < l.length) (e : l.getD i 0 = l.getD j 0) : i = j := by
  simp only [List.getD_eq_getElem?_getD, List.getElem?_eq_getElem hi, List.getElem?_eq_getElem hj, Option.getD_some] at e
  exact (List.getElem_inj h).1 e

theorem TxAt.ne_map {st : St} {x : TX} (hT : TxAt st x) {m : Nat} {es : List (Value × SV)} (hm : st[m]? = some (.map es)) : m ≠ x.id ∧ m ≠ x.rid ∧ m ≠ x.pid := by
  refine ⟨?_, ?_, ?_⟩ <;> rintro rfl
  · rw [hT.cells] at hm; cases hm
  · rw [hT.tok] at hm; cases hm
  · obtain ⟨cs, hp, _⟩ := hT.parts
    rw [hp] at hm; cases hm

theorem eng_map {st : St} {E : EG} (hE : EngAt st E) {t : Nat} (ht : t < 8) {x : TX} (hx : E.txs[t]? = some (some x)) (h1 : 1 ≤ x.mids.length) (m : PMap) (hk : (m.map (·.1)).Nodup) :
    EngAt (st.set x.top (.map (pmEs m))) { E with txs := E.txs.set t (some (x.setTop m)) } ∧ Fr st E (st.set x.top (.map (pmEs m))) { E with txs := E.txs.set t (some (x.setTop m)) } := by
  have hT := hE.tx t x hx
  have hat := top_at hT h1
  have hlt := lt_of_get hat
  have hn := hE.tx_ne hx (j := x.top) (.inr (.inr (.inr (top_mem h1))))
  have hnm := hT.ne_map hat
  have hself : E.txs.set t (some x) = E.txs := by
    refine List.ext_getElem? fun i => ?_
    by_cases e : t = i
    · subst e; rw [List.getElem?_set_self (lt_of_get hx), hx]
    · rw [List.getElem?_set_ne e]
  have hcells : ({ E with txs := E.txs.set t (some (x.setTop m)) } : EG).cells = E.cells := by
    unfold EG.cells
    congr 2
    show (E.txs.set t (some (x.setTop m))).map txSV = _
    rw [List.map_set]
    show (E.txs.map txSV).set t (txSV (some x)) = _
    rw [← List.map_set, hself]
  have g : ∀ j, j ≠ x.top → (st.set x.top (.map (pmEs m)))[j]? = st[j]? := fun j hj => List.getElem?_set_ne (Ne.symm hj)
  refine eng_upd hE ht (some (x.setTop m)) rfl rfl rfl (by rw [hcells, g _ (Ne.symm hn.1)]; exact hE.cells) (by rw [g _ (Ne.symm hn.2)]; exact hE.vars) hE.many (by simp)
    (fun j _ _ q3 _ => g j fun e => q3 x hx (by rw [e]; exact .inr (.inr (.inr (top_mem h1))))) fun x' hx' => ?_
  cases hx'
  refine ⟨⟨(g _ (Ne.symm hnm.1)).trans hT.cells, (g _ (Ne.symm hnm.2.1)).trans hT.tok, by obtain ⟨cs, hp, q⟩ := hT.parts; exact ⟨cs, (g _ (Ne.symm hnm.2.2)).trans hp, q⟩, ?_, fun i hi => ?_, hT.nodup, fun m' hm' => ?_⟩, fun j hj => .inl ⟨x, hx, hj⟩⟩
  · show (x.maps.set _ _).length = _
    rw [List.length_set]; exact hT.len
  · show (st.set x.top _)[x.mids.getD i 0]? = some (.map (pmEs ((x.maps.set (x.maps.length - 1) m).getD i [])))
    have hi' : i < x.mids.length := hi
    have hl := hT.len
    by_cases e : i = x.mids.length - 1
    · have e2 : x.mids.getD i 0 = x.top := by rw [e]; rfl
      rw [e2, List.getElem?_set_self hlt, hl, ← e]
      simp [List.getD_eq_getElem?_getD, show i < x.maps.length by omega]
    · rw [g _ (fun h => e (getD_inj hT.nodup hi' (by omega) h)), hT.maps i hi']
      have e3 : (x.maps.set (x.maps.length - 1) m).getD i [] = x.maps.getD i [] := by
        simp only [List.getD_eq_getElem?_getD]
        rw [List.getElem?_set_ne (show x.maps.length - 1 ≠ i by omega)]
      rw [e3]
  · rcases List.mem_or_eq_of_mem_set hm' with h5 | rfl
    · exact hT.keys _ h5
    · exact hk

theorem TX.abs_top (x : TX) : x.abs.top = pmGet x.topM := by
  unfold TP.top TX.topM TX.abs
  simp only [List.getD_eq_getElem?_getD, List.getElem?_map, List.length_map]
  cases x.maps[x.maps.length - 1]? <;> rfl
theorem TX.abs_setTop (x : TX) (m : PMap) : (x.setTop m).abs = x.abs.setTop (pmGet m) := by
  unfold TX.setTop TP.setTop TX.abs
  simp only [List.map_set, List.length_map]
theorem topM_keys {st : St} {x : TX} (hx : TxAt st x) (h1 : 1 ≤ x.mids.length) : (x.topM.map (·.1)).Nodup := by
  refine hx.keys _ ?_
  unfold TX.topM
  have := hx.len
  simp [List.getD_eq_getElem?_getD, show x.maps.length - 1 < x.maps.length by omega]

def writeF (E : EP) (t n v : Int) : Int × EP := match E.opn t with
  | some x => if E.is n then (0, E.put t (x.setTop (fmPut x.top n v))) else (1, E)
  | none => (1, E)

theorem obIds_pm (n : Nat) (m : PMap) : ObIds n (.map (pmEs m)) := by
  rw [obIds_map]
  intro x hx
  obtain ⟨p, _, rfl⟩ := List.mem_map.1 hx
  exact .sc _

set_option maxHeartbeats 4000000 in
theorem write_c {st : St} {E : EG} (hE : EngAt st E) (hF : Fine E) (t n v : Int) (K : SV → St → Prop)
    (h : ∀ s E', EngAt s E' → Fr st E s E' → E'.abs = (writeF E.abs t n v).2 → K (i64 (writeF E.abs t n v).1) s) : ACalls Try.prog 14 [.ptr E.id 0, i64 t, i64 n, i64 v] K st := by
  have hopn := open_c hE t
  have his := is_c hE n
  have hab := abs_opn E t
  have hai := abs_is E n
  unfold writeF at h
  rw [hab, hai] at h
  cases hx : E.opn t with
  | none =>
    rw [hx] at hopn h
    refine acalls_go_mod [] Try.func14 rfl Try.results14 Try.ntmps14 ?_
    simp only [go_sem, reduceCtorEq, Nat.reduceAdd, Nat.reduceMul, Nat.reduceLeDiff, Nat.reduceLT, Int.reduceLE, Int.reduceLT, Int.reduceEq, Nat.reduceBEq, Nat.reduceEqDiff]
    refine hopn _ ?_
    simp only [txSV, go_sem, reduceCtorEq, Nat.reduceAdd, Nat.reduceMul, Nat.reduceLeDiff, Nat.reduceLT, Int.reduceLE, Int.reduceLT, Int.reduceEq, Nat.reduceBEq, Nat.reduceEqDiff]
    exact fin_one (Mod.refl st) (h st E hE (Fr.refl _ _) rfl)
  | some x =>
    rw [hx] at hopn h
    obtain ⟨ht, htx⟩ := of_opn hx
    have hT := hE.tx _ x htx
    have h1 := hF.one _ x htx
    have h2 := (hF.reads _ x htx).2.2
    cases hb : E.is n with
    | false =>
      rw [hb] at his h
      refine acalls_go_mod [] Try.func14 rfl Try.results14 Try.ntmps14 ?_
      simp only [go_sem, reduceCtorEq, Nat.reduceAdd, Nat.reduceMul, Nat.reduceLeDiff, Nat.reduceLT, Int.reduceLE, Int.reduceLT, Int.reduceEq, Nat.reduceBEq, Nat.reduceEqDiff]
      refine hopn _ ?_
      simp only [txSV, go_sem, reduceCtorEq, Nat.reduceAdd, Nat.reduceMul, Nat.reduceLeDiff, Nat.reduceLT, Int.reduceLE, Int.reduceLT, Int.reduceEq, Nat.reduceBEq, Nat.reduceEqDiff]
      refine his _ ?_
      simp only [txSV, go_sem, reduceCtorEq, Nat.reduceAdd, Nat.reduceMul, Nat.reduceLeDiff, Nat.reduceLT, Int.reduceLE, Int.reduceLT, Int.reduceEq, Nat.reduceBEq, Nat.reduceEqDiff]
      exact fin_one (Mod.refl st) (h st E hE (Fr.refl _ _) rfl)
    | true =>
      rw [hb] at his h
      have hlast := last_c hT h1 h2
      have hput : E.abs.put t (x.setTop (pmPut x.topM n v)).abs = E.abs.put t (x.abs.setTop (fmPut x.abs.top n v)) := by rw [TX.abs_setTop, pmGet_put, TX.abs_top]
      have m := map_facts (top_at hT h1)
      have hi := pm_int x.topM
      have hup := eng_map hE ht htx h1 (pmPut x.topM n v) (pm_keys_put (topM_keys hT h1) n v)
      refine acalls_go_mod [] Try.func14 rfl Try.results14 Try.ntmps14 ?_
      simp only [go_sem, reduceCtorEq, Nat.reduceAdd, Nat.reduceMul, Nat.reduceLeDiff, Nat.reduceLT, Int.reduceLE, Int.reduceLT, Int.reduceEq, Nat.reduceBEq, Nat.reduceEqDiff]
      refine hopn _ ?_
      simp only [txSV, go_sem, reduceCtorEq, Nat.reduceAdd, Nat.reduceMul, Nat.reduceLeDiff, Nat.reduceLT, Int.reduceLE, Int.reduceLT, Int.reduceEq, Nat.reduceBEq, Nat.reduceEqDiff]
      refine his _ ?_
      simp only [txSV, go_sem, reduceCtorEq, Nat.reduceAdd, Nat.reduceMul, Nat.reduceLeDiff, Nat.reduceLT, Int.reduceLE, Int.reduceLT, Int.reduceEq, Nat.reduceBEq, Nat.reduceEqDiff]
      refine hlast _ ?_
      simp only [go_sem, reduceCtorEq, Nat.reduceAdd, Nat.reduceMul, Nat.reduceLeDiff, Nat.reduceLT, Int.reduceLE, Int.reduceLT, Int.reduceEq, Nat.reduceBEq, Nat.reduceEqDiff, m.1]
      rw [put_int Try.amap92 m.2 hi, pm_put]
      exact fin_one ((Mod.refl st).set _ _ (obIds_pm _ _)) (h _ _ hup.1 hup.2 (.trans (by simp only [EG.abs, List.map_set]; rfl) hput))

end Go.Proofs
