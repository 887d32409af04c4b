/- The engine: Set: what is left of an engine when one map turns; where its words lie. -/
import Derived.Test.YteclbnjpijakbaaW20
set_option linter.unusedSimpArgs false
set_option linter.unusedVariables false
set_option maxRecDepth 8000
namespace Go.Proofs
open Go Go.AL

def TX.setAt (x : TX) (i : Nat) (m : PMap) : TX := { x with maps := x.maps.set i m }

theorem getD_memN {l : List Nat} {i : Nat} (h : i < l.length) : l.getD i 0 ∈ l := by simp [List.getD_eq_getElem?_getD, h]

theorem eng_mapAt {st : St} {E : EG} (hE : EngAt st E) {t : Nat} (ht : t < 8) {x : TX} (hx : E.txs[t]? = some (some x)) {k : Nat} (h1 : k < x.mids.length) (m : PMap) (hk : (m.map (·.1)).Nodup) :
    EngAt (st.set (x.mids.getD k 0) (.map (pmEs m))) (E.setTx t (x.setAt k m)) ∧ Fr st E (st.set (x.mids.getD k 0) (.map (pmEs m))) (E.setTx t (x.setAt k m)) := by
  have hT := hE.tx t x hx
  have hat := hT.maps k h1
  obtain ⟨tp, htp⟩ : ∃ tp, tp = x.mids.getD k 0 := ⟨_, rfl⟩
  have hmem := getD_memN h1
  rw [← htp] at hat hmem ⊢
  have hlt := lt_of_get hat
  have hn := hE.tx_ne hx (j := tp) (.inr (.inr (.inr hmem)))
  have hnm := hT.ne_map hat
  have hself : E.txs.set t (some x) = E.txs := by
    refine List.ext_getElem? fun i => ?_
    by_cases e : t = i
    · subst e; rw [List.getElem?_set_self (lt_of_get hx), hx]
    · rw [List.getElem?_set_ne e]
  have hcells : (E.setTx t (x.setAt k m)).cells = E.cells := by
    unfold EG.cells EG.setTx
    congr 2
    show (E.txs.set t (some (x.setAt k m))).map txSV = _
    rw [List.map_set]
    show (E.txs.map txSV).set t (txSV (some x)) = _
    rw [← List.map_set, hself]
  have g : ∀ j, j ≠ tp → (st.set tp (.map (pmEs m)))[j]? = st[j]? := fun j hj => List.getElem?_set_ne (Ne.symm hj)
  refine eng_upd hE ht (some (x.setAt k m)) rfl rfl rfl (by rw [hcells, g _ (Ne.symm hn.1)]; exact hE.cells) (by rw [g _ (Ne.symm hn.2)]; exact hE.vars) hE.many (by simp)
    (fun j _ _ q3 _ => g j fun e => q3 x hx (by rw [e]; exact .inr (.inr (.inr hmem)))) fun x' hx' => ?_
  cases hx'
  refine ⟨⟨(g _ (Ne.symm hnm.1)).trans hT.cells, (g _ (Ne.symm hnm.2.1)).trans hT.tok, by obtain ⟨cs, hp, q⟩ := hT.parts; exact ⟨cs, (g _ (Ne.symm hnm.2.2)).trans hp, q⟩, ?_, fun i hi => ?_, hT.nodup, fun m' hm' => ?_⟩, fun j hj => .inl ⟨x, hx, hj⟩⟩
  · show (x.maps.set _ _).length = _
    rw [List.length_set]; exact hT.len
  · show (st.set tp _)[x.mids.getD i 0]? = some (.map (pmEs ((x.maps.set k m).getD i [])))
    have hi' : i < x.mids.length := hi
    have hl := hT.len
    by_cases e : i = k
    · subst e
      rw [← htp, List.getElem?_set_self hlt]
      simp [List.getD_eq_getElem?_getD, show i < x.maps.length by omega]
    · rw [g _ (fun h => e (getD_inj hT.nodup hi' h1 (h.trans htp))), hT.maps i hi']
      have e3 : (x.maps.set k m).getD i [] = x.maps.getD i [] := by
        simp only [List.getD_eq_getElem?_getD]
        rw [List.getElem?_set_ne (Ne.symm e)]
      rw [e3]
  · rcases List.mem_or_eq_of_mem_set hm' with h5 | rfl
    · exact hT.keys _ h5
    · exact hk

theorem fmPut_some {f : FM} {n v : Int} (h : (f n).isSome = true) (k : Int) : ((fmPut f n v) k).isSome = (f k).isSome := by
  unfold fmPut
  split
  · rename_i e; rw [e, h]; rfl
  · rfl

theorem keys_same {f g : FM} (h : ∀ k, (f k).isSome = (g k).isSome) (n : Nat) : keysUpto f n = keysUpto g n := by
  unfold keysUpto
  congr 2
  funext k
  exact h k

/-- A written map keeps its keys: the engine stays as walks want it. -/
theorem fine_mapAt {E : EG} (hF : Fine E) {t : Nat} {x : TX} (hx : E.txs[t]? = some (some x)) (i : Nat) {k v : Int} (hs : (pmGet (x.maps.getD i []) k).isSome = true) : Fine (E.setTx t (x.setAt i (pmPut (x.maps.getD i []) k v))) := by
  have hget : ∀ (u : Nat) (y : TX), (E.setTx t (x.setAt i (pmPut (x.maps.getD i []) k v))).txs[u]? = some (some y) → (u = t ∧ y = x.setAt i (pmPut (x.maps.getD i []) k v)) ∨ E.txs[u]? = some (some y) := fun u y hy => by
    have hy : (E.txs.set t (some (x.setAt i (pmPut (x.maps.getD i []) k v))))[u]? = some (some y) := hy
    by_cases e : u = t
    · subst e
      rw [List.getElem?_set_self (lt_of_get hx)] at hy
      cases hy; exact .inl ⟨rfl, rfl⟩
    · rw [List.getElem?_set_ne (Ne.symm e)] at hy; exact .inr hy
  refine ⟨fun u y hy => ?_, fun u y hy => ?_, fun u y hy => ?_, hF.clk, fun u y hy => ?_⟩
  · rcases hget u y hy with ⟨rfl, rfl⟩ | q
    · exact hF.reads u x hx
    · exact hF.reads u y q
  · rcases hget u y hy with ⟨rfl, rfl⟩ | q
    · exact hF.one u x hx
    · exact hF.one u y q
  · rcases hget u y hy with ⟨rfl, rfl⟩ | q
    · intro m hm q hq
      rcases List.mem_or_eq_of_mem_set hm with h5 | rfl
      · exact hF.dom u x hx m h5 q hq
      · rw [pmGet_put, fmPut_some hs] at hq
        refine hF.dom u x hx (x.maps.getD i []) ?_ q hq
        by_cases c : i < x.maps.length
        · simp [List.getD_eq_getElem?_getD, c]
        · rw [List.getD_eq_getElem?_getD, List.getElem?_eq_none (by omega)] at hq; cases hq
    · exact hF.dom u y q
  · rcases hget u y hy with ⟨rfl, rfl⟩ | q
    · exact hF.left u x hx
    · exact hF.left u y q

/-! The words ahead of a place. -/
def mapsW (n : Nat) (l : List FM) : List Int := l.flatMap (mapW n)
def preT (E : EP) (t : Nat) : List Int := E.vars.map (·.val) ++ (E.txs.take t).flatMap (txW E.vars.length)

theorem preT_all {E : EP} (h : E.txs.length = 8) : preT E 8 = wordsF E := by
  unfold preT wordsF
  rw [List.take_of_length_le (by omega)]

theorem preT_succ {E : EP} {t : Nat} {o : Option TP} (h : E.txs[t]? = some o) : preT E (t + 1) = preT E t ++ txW E.vars.length o := by
  have hlt := lt_of_get h
  unfold preT
  have e := (List.getElem?_eq_some_iff.1 h).2
  rw [List.take_succ_eq_append_getElem hlt, e, List.flatMap_append, List.append_assoc]
  simp

theorem words_cut {E : EP} {t : Nat} {o : Option TP} (h : E.txs[t]? = some o) : wordsF E = preT E t ++ (txW E.vars.length o ++ (E.txs.drop (t + 1)).flatMap (txW E.vars.length)) := by
  have hlt := lt_of_get h
  have e := (List.getElem?_eq_some_iff.1 h).2
  unfold wordsF preT
  conv => lhs; rw [← List.take_append_drop t E.txs]
  rw [List.drop_eq_getElem_cons hlt, e, List.flatMap_append, List.flatMap_cons, List.append_assoc]

theorem preT_set {E : EP} {t u : Nat} {o : Option TP} (h : t ≤ u) : preT { E with txs := E.txs.set u o } t = preT E t := by
  unfold preT
  congr 2
  rw [List.take_set_of_le h]

theorem words_set_len {E : EP} {t : Nat} {x y : TP} (h : E.txs[t]? = some (some x)) (he : (txW E.vars.length (some y)).length = (txW E.vars.length (some x)).length) : (wordsF { E with txs := E.txs.set t (some y) }).length = (wordsF E).length := by
  have hlt := lt_of_get h
  have h2 : ({ E with txs := E.txs.set t (some y) } : EP).txs[t]? = some (some y) := List.getElem?_set_self hlt
  rw [words_cut h2, words_cut h, preT_set (Nat.le_refl t)]
  simp only [List.length_append, he]
  congr 2
  rw [List.drop_set_of_lt (by omega)]

theorem mapsW_cut {n : Nat} {l : List FM} {i : Nat} (h : i < l.length) : mapsW n l = mapsW n (l.take i) ++ (mapW n (l.getD i fun _ => none) ++ mapsW n (l.drop (i + 1))) := by
  unfold mapsW
  conv => lhs; rw [← List.take_append_drop i l]
  rw [List.drop_eq_getElem_cons h, List.flatMap_append, List.flatMap_cons]
  congr 2
  simp [List.getD_eq_getElem?_getD, h]

theorem mapsW_succ {n : Nat} {l : List FM} {i : Nat} (h : i < l.length) : mapsW n (l.take (i + 1)) = mapsW n (l.take i) ++ mapW n (l.getD i fun _ => none) := by
  unfold mapsW
  rw [List.take_succ_eq_append_getElem h, List.flatMap_append]
  simp [List.getD_eq_getElem?_getD, h]

theorem mapsW_set_len {n : Nat} {l : List FM} {i : Nat} (h : i < l.length) {f : FM} (hf : (mapW n f).length = (mapW n (l.getD i fun _ => none)).length) : (mapsW n (l.set i f)).length = (mapsW n l).length := by
  rw [mapsW_cut (l := l.set i f) (i := i) (by simpa using h), mapsW_cut h]
  have e : (l.set i f).getD i (fun _ => none) = f := by simp [List.getD_eq_getElem?_getD, h]
  rw [e, List.take_set_of_le (Nat.le_refl i), List.drop_set_of_lt (by omega)]
  simp only [List.length_append, hf]

theorem mapW_len (n : Nat) (f : FM) : (mapW n f).length = (keysUpto f n).length := by unfold mapW; rw [List.length_map]

end Go.Proofs
