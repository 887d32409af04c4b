/- The engine: Read. -/
import Derived.Test.YteclbnjpijakbaaW16
set_option linter.unusedSimpArgs false
set_option linter.unusedVariables false
set_option maxRecDepth 8000
namespace Go.Proofs
open Go Go.AL

/-- What the last map says that says anything. -/
def topGet : List FM → Int → Option Int
  | [], _ => none
  | f :: r, n => (topGet r n).or (f n)

theorem topGet_none {maps : List PMap} {n : Int} (h : ∀ j, j < maps.length → pmGet (maps.getD j []) n = none) : topGet (maps.map pmGet) n = none := by
  induction maps with
  | nil => rfl
  | cons m r ih =>
    have h0 := h 0 (by simp)
    have h1 := ih fun j hj => h (j + 1) (by simpa using hj)
    simp only [List.map_cons, topGet, h1]
    simpa using h0
theorem topGet_some {maps : List PMap} {n v : Int} {j : Nat} (hj : j < maps.length) (hv : pmGet (maps.getD j []) n = some v) (h : ∀ i, j < i → i < maps.length → pmGet (maps.getD i []) n = none) : topGet (maps.map pmGet) n = some v := by
  induction maps generalizing j with
  | nil => cases hj
  | cons m r ih =>
    cases j with
    | zero =>
      have h1 := topGet_none (maps := r) (n := n) fun i hi => h (i + 1) (by omega) (by simpa using hi)
      simp only [List.map_cons, topGet, h1]
      simpa using hv
    | succ j =>
      have h1 := ih (j := j) (by simpa using hj) hv fun i h1 h2 => h (i + 1) (by omega) (by simpa using h2)
      simp only [List.map_cons, topGet, h1]
      rfl

def readF (E : EP) (t n : Int) : (Int × Int) × EP := match E.opn t with
  | none => ((0, 1), E)
  | some x => if E.is n = true then
      match topGet x.maps n with
      | some v => ((v, 0), E)
      | none => if lookF t x.start (E.vars.getD n.toNat default) ≠ 0 then ((0, lookF t x.start (E.vars.getD n.toNat default)), E) else
          (((E.vars.getD n.toNat default).val, 0), if n ∈ x.reads then E else E.put t { x with reads := x.reads ++ [n] })
    else ((0, 1), E)

def TX.addRead (x : TX) (n : Int) : TX := { x with reads := x.reads ++ [n], rver := x.rver + 1 }

theorem EngAt.app {st : St} {E : EG} (h : EngAt st E) (l : St) : EngAt (st ++ l) E ∧ Fr st E (st ++ l) E :=
  eng_core h rfl rfl rfl (by rw [List.getElem?_append_left (lt_of_get h.cells)]; exact h.cells) (by rw [List.getElem?_append_left (lt_of_get h.vars)]; exact h.vars) h.many (by simp)
    (fun j _ _ hj => List.getElem?_append_left hj)

theorem back_c {st : St} {id ver k : Nat} (K : SV → St → Prop) (h : K (.func (.func 75) [] [.ref [.arr id ver k]]) st) : ACalls Try.prog 50 [.arr id ver k] K st := by
  refine acalls_go (M := []) Try.func50 rfl Try.results50 Try.ntmps50 ?_
  simp only [go_sem, reduceCtorEq, Nat.reduceAdd, Nat.reduceMul, Nat.reduceLeDiff, Nat.reduceLT, Int.reduceLE, Int.reduceLT, Int.reduceEq, Nat.reduceBEq, Nat.reduceEqDiff]
  exact h

theorem ids_full1 (m : Nat) (n : Int) : Ids m (.slice .full 1 [i64 n]) := by
  refine .slice _ _ _ (fun _ _ e => by cases e) fun i j hi hj => ?_
  have hi' : i = 0 := by simp at hi; omega
  have : j = 0 := by omega
  subst this; subst hi'
  exact .sc _

theorem addRead_at {st : St} {x : TX} (hT : TxAt st x) (n : Int) : TxAt ((st.set x.rid (.tok (x.rver + 1))).set x.id (.cells (x.addRead n).cells)) (x.addRead n) := by
  have hlt1 := lt_of_get hT.cells
  have hlt2 := lt_of_get hT.tok
  have n1 : x.id ≠ x.rid := fun e => by have := hT.cells; rw [e, hT.tok] at this; cases this
  obtain ⟨cs, hp, hle, htk⟩ := hT.parts
  have n2 : x.id ≠ x.pid := fun e => by have := hT.cells; rw [e, hp] at this; cases this
  have n3 : x.rid ≠ x.pid := fun e => by have := hT.tok; rw [e, hp] at this; cases this
  refine ⟨List.getElem?_set_self (by simpa using hlt1), ?_, ⟨cs, ?_, hle, htk⟩, hT.len, fun i hi => ?_, hT.nodup, hT.keys⟩
  · exact (List.getElem?_set_ne n1).trans (List.getElem?_set_self hlt2)
  · exact (List.getElem?_set_ne n2).trans ((List.getElem?_set_ne n3).trans hp)
  · have h5 := hT.maps i hi
    have h6 := hT.ne_map h5
    exact (List.getElem?_set_ne h6.1.symm).trans ((List.getElem?_set_ne h6.2.1.symm).trans h5)

theorem addRead_eng {st s : St} {E : EG} (hE : EngAt st E) {t : Nat} (ht : t < 8) {x : TX} (hx : E.txs[t]? = some (some x)) (n : Int) (hlen : st.length ≤ s.length)
    (hs : ∀ j, j < st.length → s[j]? = ((st.set x.rid (.tok (x.rver + 1))).set x.id (.cells (x.addRead n).cells))[j]?) : EngAt s (E.setTx t (x.addRead n)) ∧ Fr st E s (E.setTx t (x.addRead n)) := by
  have hT := hE.tx _ _ hx
  refine eng_tx hE ht hx rfl hlen (fun j hj hlt => ?_) ((addRead_at hT n).of_same fun j hj => hs j (hT.has_lt hj)) fun j hj => .inl hj
  rw [hs j hlt, List.getElem?_set_ne (fun e => hj (.inl e.symm)), List.getElem?_set_ne (fun e => hj (.inr (.inl e.symm)))]

set_option maxHeartbeats 8000000 in
theorem read_c {st : St} {E : EG} (hE : EngAt st E) (hF : Fine E) (t n : Int) (K : SV → St → Prop)
    (h : ∀ s E', EngAt s E' → Fr st E s E' → E'.abs = (readF E.abs t n).2 → K (.tuple [i64 (readF E.abs t n).1.1, i64 (readF E.abs t n).1.2]) s) : ACalls Try.prog 17 [.ptr E.id 0, i64 t, i64 n] K st := by
  have hab := abs_opn E t
  have hai := abs_is E n
  unfold readF at h
  rw [hab, hai] at h
  refine acalls_restM Try.func17 rfl fun σ w hI => ?_
  rw [Try.ntmps17]
  refine restM_go [6, 7] Try.results17 ?_
  simp only [go_sem, reduceCtorEq, Nat.reduceAdd, Nat.reduceMul, Nat.reduceLeDiff, Nat.reduceLT, Int.reduceLE, Int.reduceLT, Int.reduceEq, Nat.reduceBEq, Nat.reduceEqDiff, restR_n, restR_r, rest2R_n]
  obtain ⟨s0, hs0⟩ : ∃ s0, s0 = st ++ [Ob.cells [SV.sc (Value.int IntKind.i64 0)], Ob.cells [SV.sc (Value.int IntKind.i64 0)]] := ⟨_, rfl⟩
  rw [← hs0]
  obtain ⟨hE0, hFr0⟩ := hE.app [Ob.cells [SV.sc (Value.int IntKind.i64 0)], Ob.cells [SV.sc (Value.int IntKind.i64 0)]]
  rw [← hs0] at hE0 hFr0
  have hopn := open_c hE0 t
  have his := is_c hE0 n
  have b6 : s0[st.length]? = some (.cells [i64 0]) := by rw [hs0]; simp
  have b7 : s0[st.length + 1]? = some (.cells [i64 0]) := by rw [hs0, List.getElem?_append_right (by omega)]; simp
  have g6 := cells_facts b6
  have g7 := cells_facts b7
  have hn67 : st.length ≠ st.length + 1 := by omega
  have hn76 : st.length + 1 ≠ st.length := by omega
  have hkeep : ∀ (a b : Int), EngAt ((s0.set st.length (.cells [i64 a])).set (st.length + 1) (.cells [i64 b])) E ∧ Fr st E ((s0.set st.length (.cells [i64 a])).set (st.length + 1) (.cells [i64 b])) E := by
    intro a b
    have hg : ∀ j, j < st.length → ((s0.set st.length (.cells [i64 a])).set (st.length + 1) (.cells [i64 b]))[j]? = st[j]? := fun j hj => by
      rw [List.getElem?_set_ne (by omega), List.getElem?_set_ne (by omega), hs0, List.getElem?_append_left hj]
    exact eng_core hE rfl rfl rfl (by rw [hg _ (lt_of_get hE.cells)]; exact hE.cells) (by rw [hg _ (lt_of_get hE.vars)]; exact hE.vars) hE.many (by rw [hs0]; simp) (fun j _ _ hj => hg j hj)
  cases hx : E.opn t with
  | none =>
    rw [hx] at hopn h
    refine restM_go [] Try.results17 ?_
    simp only [go_sem, reduceCtorEq, Nat.reduceAdd, Nat.reduceMul, Nat.reduceLeDiff, Nat.reduceLT, Int.reduceLE, Int.reduceLT, Int.reduceEq, Nat.reduceBEq, Nat.reduceEqDiff, restR_n, restR_r, rest2R_n]
    refine hopn _ ?_
    simp only [txSV, go_sem, reduceCtorEq, Nat.reduceAdd, Nat.reduceMul, Nat.reduceLeDiff, Nat.reduceLT, Int.reduceLE, Int.reduceLT, Int.reduceEq, Nat.reduceBEq, Nat.reduceEqDiff, restR_n, restR_r, rest2R_n]
    refine restM_go [] Try.results17 ?_
    simp only [txSV, go_sem, reduceCtorEq, Nat.reduceAdd, Nat.reduceMul, Nat.reduceLeDiff, Nat.reduceLT, Int.reduceLE, Int.reduceLT, Int.reduceEq, Nat.reduceBEq, Nat.reduceEqDiff, restR_n, restR_r, rest2R_n, g6.1, g6.2.1, g6.2.2, g7.1, g7.2.1, g7.2.2, hn67, hn76]
    exact h _ _ (hkeep 0 1).1 (hkeep 0 1).2 rfl
  | some x =>
    rw [hx] at hopn h
    obtain ⟨ht, htx⟩ := of_opn hx
    have hT := hE0.tx _ x htx
    have h1 := hF.one _ x htx
    have h2 := (hF.reads _ x htx).2.2
    have g := cells_facts hT.cells
    cases hb : E.is n with
    | false =>
      rw [hb] at his h
      refine restM_go [] Try.results17 ?_
      simp only [go_sem, reduceCtorEq, Nat.reduceAdd, Nat.reduceMul, Nat.reduceLeDiff, Nat.reduceLT, Int.reduceLE, Int.reduceLT, Int.reduceEq, Nat.reduceBEq, Nat.reduceEqDiff, restR_n, restR_r, rest2R_n]
      refine hopn _ ?_
      simp only [txSV, go_sem, reduceCtorEq, Nat.reduceAdd, Nat.reduceMul, Nat.reduceLeDiff, Nat.reduceLT, Int.reduceLE, Int.reduceLT, Int.reduceEq, Nat.reduceBEq, Nat.reduceEqDiff, restR_n, restR_r, rest2R_n]
      refine restM_go [] Try.results17 ?_
      simp only [txSV, go_sem, reduceCtorEq, Nat.reduceAdd, Nat.reduceMul, Nat.reduceLeDiff, Nat.reduceLT, Int.reduceLE, Int.reduceLT, Int.reduceEq, Nat.reduceBEq, Nat.reduceEqDiff, restR_n, restR_r, rest2R_n]
      refine his _ ?_
      simp only [txSV, go_sem, reduceCtorEq, Nat.reduceAdd, Nat.reduceMul, Nat.reduceLeDiff, Nat.reduceLT, Int.reduceLE, Int.reduceLT, Int.reduceEq, Nat.reduceBEq, Nat.reduceEqDiff, restR_n, restR_r, rest2R_n, g6.1, g6.2.1, g6.2.2, g7.1, g7.2.1, g7.2.2, hn67, hn76]
      exact h _ _ (hkeep 0 1).1 (hkeep 0 1).2 rfl
    | true =>
      rw [hb] at his h
      obtain ⟨cs, hp, hle, htk⟩ := hT.parts
      have w := arr_facts hp
      refine restM_go [] Try.results17 ?_
      simp only [go_sem, reduceCtorEq, Nat.reduceAdd, Nat.reduceMul, Nat.reduceLeDiff, Nat.reduceLT, Int.reduceLE, Int.reduceLT, Int.reduceEq, Nat.reduceBEq, Nat.reduceEqDiff, restR_n, restR_r, rest2R_n]
      refine hopn _ ?_
      simp only [txSV, go_sem, reduceCtorEq, Nat.reduceAdd, Nat.reduceMul, Nat.reduceLeDiff, Nat.reduceLT, Int.reduceLE, Int.reduceLT, Int.reduceEq, Nat.reduceBEq, Nat.reduceEqDiff, restR_n, restR_r, rest2R_n]
      refine restM_go [] Try.results17 ?_
      simp only [txSV, go_sem, reduceCtorEq, Nat.reduceAdd, Nat.reduceMul, Nat.reduceLeDiff, Nat.reduceLT, Int.reduceLE, Int.reduceLT, Int.reduceEq, Nat.reduceBEq, Nat.reduceEqDiff, restR_n, restR_r, rest2R_n]
      refine his _ ?_
      simp only [txSV, go_sem, reduceCtorEq, Nat.reduceAdd, Nat.reduceMul, Nat.reduceLeDiff, Nat.reduceLT, Int.reduceLE, Int.reduceLT, Int.reduceEq, Nat.reduceBEq, Nat.reduceEqDiff, restR_n, restR_r, rest2R_n]
      refine restM_go2 [] Try.results17 ?_
      simp only [txSV, go_sem, reduceCtorEq, Nat.reduceAdd, Nat.reduceMul, Nat.reduceLeDiff, Nat.reduceLT, Int.reduceLE, Int.reduceLT, Int.reduceEq, Nat.reduceBEq, Nat.reduceEqDiff, restR_n, restR_r, rest2R_n, g.1, g.2.1, g.2.2, TX.cells]
      refine back_c _ ?_
      simp only [txSV, go_sem, reduceCtorEq, Nat.reduceAdd, Nat.reduceMul, Nat.reduceLeDiff, Nat.reduceLT, Int.reduceLE, Int.reduceLT, Int.reduceEq, Nat.reduceBEq, Nat.reduceEqDiff, restR_n, restR_r, rest2R_n, g.1, g.2.1, g.2.2, TX.cells]
      intro σ1 w1 a1 hI1 hR1 hd1 hX1
      refine range_al (K := K) (fn := Try.f17) st.length (st.length + 1) x.pid x.pver n x.mids x.maps cs (i64 0) (i64 0) hI1 hR1 hd1 hX1 rfl rfl rfl rfl rfl b6 b7 hn67 hp hle htk hT.maps h1 (by omega) ?_ ?_
      · intro hnone
        have htop : topGet x.abs.maps n = none := topGet_none fun j hj => hnone j (by rw [hT.len] at hj; exact hj)
        have f0 : inS s0 E.id = True ∧ isObj s0 E.id = True ∧ objAt s0 E.id = i64 E.clock :: .arr E.vid E.vver E.vars.length :: E.txs.map txSV := cells_facts hE0.cells
        have w0' := arr_facts hE0.vars
        have hxr : x.id ≠ x.rid := fun e => by have := hT.cells; rw [e, hT.tok] at this; cases this
        have hrx := hxr.symm
        have happ := app_i64s (n := x.reads.length + 1) (by have := (hF.reads _ x htx).2.1; omega)
        have tk := tokAt_eq (v' := x.rver) hT.tok
        have hcont := contains_c (st := s0) (.own x.rid x.rver) (l := x.reads) (by have := (hF.reads _ x htx).2.1; omega) n
        have hbb := hb
        unfold EG.is at hbb
        simp only [Bool.and_eq_true, decide_eq_true_eq] at hbb
        simp only [Option.map_some, if_true, htop] at h
        have hlook : ∀ K : SV → St → Prop, K (i64 (lookF t x.start (E.vars.getD n.toNat default))) s0 → ACalls Try.prog 51 [.ptr E.id 0, i64 t, .ptr x.id 0, i64 n] K s0 := look_c hE0 t n x hT.cells hbb
        have hh : ∀ s E', EngAt s E' → Fr st E s E' → E'.abs = (if lookF t x.start (E.vars.getD n.toNat default) ≠ 0 then (((0, lookF t x.start (E.vars.getD n.toNat default)), E.abs) : (Int × Int) × EP) else
          (((E.vars.getD n.toNat default).val, 0), if n ∈ x.reads then E.abs else E.abs.put t { x.abs with reads := x.reads ++ [n] })).2 →
          K (.tuple [i64 (if lookF t x.start (E.vars.getD n.toNat default) ≠ 0 then (((0, lookF t x.start (E.vars.getD n.toNat default)), E.abs) : (Int × Int) × EP) else
          (((E.vars.getD n.toNat default).val, 0), if n ∈ x.reads then E.abs else E.abs.put t { x.abs with reads := x.reads ++ [n] })).1.1, i64 (if lookF t x.start (E.vars.getD n.toNat default) ≠ 0 then (((0, lookF t x.start (E.vars.getD n.toNat default)), E.abs) : (Int × Int) × EP) else
          (((E.vars.getD n.toNat default).val, 0), if n ∈ x.reads then E.abs else E.abs.put t { x.abs with reads := x.reads ++ [n] })).1.2]) s := h
        clear h
        have h := hh
        clear hh
        obtain ⟨c0, hc0⟩ : ∃ c0, c0 = lookF t x.start (E.vars.getD n.toNat default) := ⟨_, rfl⟩
        obtain ⟨y, hy⟩ : ∃ y, y = E.vars.getD n.toNat default := ⟨_, rfl⟩
        rw [← hc0] at h hlook
        rw [← hy] at h
        have hv := vars_drop (l := E.vars) (n := n.toNat) (by omega)
        rw [← hy] at hv
        refine (awp_c (M := []) ?_).mono fun e env st hq => retR_q (rs := #[ResultVar.cell 6 3, ResultVar.cell 7 27]) Try.results17 hq
        simp only [txSV, go_sem, reduceCtorEq, Nat.reduceAdd, Nat.reduceMul, Nat.reduceLeDiff, Nat.reduceLT, Int.reduceLE, Int.reduceLT, Int.reduceEq, Nat.reduceBEq, Nat.reduceEqDiff, restR_n, restR_r, rest2R_n, g.1, g.2.1, g.2.2, TX.cells]
        refine hlook _ ?_
        simp only [txSV, go_sem, reduceCtorEq, Nat.reduceAdd, Nat.reduceMul, Nat.reduceLeDiff, Nat.reduceLT, Int.reduceLE, Int.reduceLT, Int.reduceEq, Nat.reduceBEq, Nat.reduceEqDiff, restR_n, restR_r, rest2R_n, g.1, g.2.1, g.2.2, TX.cells, g6.1, g6.2.1, g6.2.2, g7.1, g7.2.1, g7.2.2, hn67, hn76]
        refine ⟨fun c => ?_, fun c => ?_⟩
        · rw [if_pos (by simpa using c)] at h
          exact h _ _ (hkeep 0 c0).1 (hkeep 0 c0).2 rfl
        · rw [if_neg (by simpa using c)] at h
          refine awp_draw [] Try.mixed rfl ?_
          simp only [txSV, go_sem, reduceCtorEq, Nat.reduceAdd, Nat.reduceMul, Nat.reduceLeDiff, Nat.reduceLT, Int.reduceLE, Int.reduceLT, Int.reduceEq, Nat.reduceBEq, Nat.reduceEqDiff, restR_n, restR_r, rest2R_n, g.1, g.2.1, g.2.2, TX.cells]
          refine ⟨.sc (.bool (containsF x.reads n)), ?_, ?_⟩
          · simp only [txSV, go_sem, reduceCtorEq, Nat.reduceAdd, Nat.reduceMul, Nat.reduceLeDiff, Nat.reduceLT, Int.reduceLE, Int.reduceLT, Int.reduceEq, Nat.reduceBEq, Nat.reduceEqDiff, g.1, g.2.1, g.2.2, TX.cells]
            refine hcont _ ?_
            simp only [go_sem, reduceCtorEq, Nat.reduceAdd, Nat.reduceMul, Nat.reduceLeDiff, Nat.reduceLT, Int.reduceLE, Int.reduceLT, Int.reduceEq, Nat.reduceBEq, Nat.reduceEqDiff]
            exact ⟨⟨[], by simp⟩, .sc _, .inl rfl⟩
          simp only [go_sem, reduceCtorEq, Nat.reduceAdd, Nat.reduceMul, Nat.reduceLeDiff, Nat.reduceLT, Int.reduceLE, Int.reduceLT, Int.reduceEq, Nat.reduceBEq, Nat.reduceEqDiff]
          refine ⟨fun d => ?_, fun d => ?_⟩
          · have hnr : n ∉ x.reads := by simpa [containsF] using d
            rw [if_neg hnr] at h
            obtain ⟨s2, hs2⟩ : ∃ s2, s2 = (s0.set x.rid (.tok (x.rver + 1))).set x.id (.cells (x.addRead n).cells) := ⟨_, rfl⟩
            refine awp_drawD [] [7, 10] [([], s0), ([7], s0.set x.rid (.tok (x.rver + 1))), ([7, 10], (s0.set x.rid (.tok (x.rver + 1))).set x.id (.cells (x.addRead n).cells))] [[[], [7]], [[]], [[]], [[]], [[]], [[]], [[]], [[]], [[7]], [[7]], [[7]]] Try.mixed rfl rfl rfl rfl rfl ?_
            refine dD_pA rfl (.ptr x.id 0) (by simp only [go_sem, reduceCtorEq, Nat.reduceAdd, Nat.reduceMul, Nat.reduceLeDiff, Nat.reduceLT, Int.reduceLE, Int.reduceLT, Int.reduceEq, Nat.reduceBEq, Nat.reduceEqDiff, look_c, eqN_nil, eqN_l, eqN_r, eqN_c, forall_cs, forall_nl]) ?_
            refine dD_pA rfl (.ptr x.id 0) (by simp only [go_sem, reduceCtorEq, Nat.reduceAdd, Nat.reduceMul, Nat.reduceLeDiff, Nat.reduceLT, Int.reduceLE, Int.reduceLT, Int.reduceEq, Nat.reduceBEq, Nat.reduceEqDiff, look_c, eqN_nil, eqN_l, eqN_r, eqN_c, forall_cs, forall_nl]) ?_
            refine dD_pA rfl (.ptr x.id 0) (by simp only [go_sem, reduceCtorEq, Nat.reduceAdd, Nat.reduceMul, Nat.reduceLeDiff, Nat.reduceLT, Int.reduceLE, Int.reduceLT, Int.reduceEq, Nat.reduceBEq, Nat.reduceEqDiff, look_c, eqN_nil, eqN_l, eqN_r, eqN_c, forall_cs, forall_nl]) ?_
            refine dD_pA rfl (.ptr x.id 2) (by simp only [go_sem, reduceCtorEq, Nat.reduceAdd, Nat.reduceMul, Nat.reduceLeDiff, Nat.reduceLT, Int.reduceLE, Int.reduceLT, Int.reduceEq, Nat.reduceBEq, Nat.reduceEqDiff, look_c, eqN_nil, eqN_l, eqN_r, eqN_c, forall_cs, forall_nl]) ?_
            refine dD_pA rfl (.slice (.own x.rid x.rver) 1 (x.reads.map i64)) (by simp only [go_sem, reduceCtorEq, Nat.reduceAdd, Nat.reduceMul, Nat.reduceLeDiff, Nat.reduceLT, Int.reduceLE, Int.reduceLT, Int.reduceEq, Nat.reduceBEq, Nat.reduceEqDiff, look_c, eqN_nil, eqN_l, eqN_r, eqN_c, forall_cs, forall_nl, g.1, g.2.1, g.2.2, TX.cells]) ?_
            refine dD_pA rfl (i64 n) (by simp only [go_sem, reduceCtorEq, Nat.reduceAdd, Nat.reduceMul, Nat.reduceLeDiff, Nat.reduceLT, Int.reduceLE, Int.reduceLT, Int.reduceEq, Nat.reduceBEq, Nat.reduceEqDiff, look_c, eqN_nil, eqN_l, eqN_r, eqN_c, forall_cs, forall_nl]) ?_
            refine dD_pA rfl (.slice .full 1 [i64 n]) (by simp only [go_sem, reduceCtorEq, Nat.reduceAdd, Nat.reduceMul, Nat.reduceLeDiff, Nat.reduceLT, Int.reduceLE, Int.reduceLT, Int.reduceEq, Nat.reduceBEq, Nat.reduceEqDiff, look_c, eqN_nil, eqN_l, eqN_r, eqN_c, forall_cs, forall_nl]; refine ⟨_, ?_, rfl⟩; simp only [go_sem, reduceCtorEq, Nat.reduceAdd, Nat.reduceMul, Nat.reduceLeDiff, Nat.reduceLT, Int.reduceLE, Int.reduceLT, Int.reduceEq, Nat.reduceBEq, Nat.reduceEqDiff]; exact ⟨⟨[], by simp⟩, ids_full1 _ _, .inl rfl⟩) ?_
            refine dD_t1 (d := [7]) rfl rfl (.slice (.own x.rid (x.rver + 1)) 1 (x.reads.map i64 ++ [i64 n])) rfl (by simp only [go_sem, reduceCtorEq, Nat.reduceAdd, Nat.reduceMul, Nat.reduceLeDiff, Nat.reduceLT, Int.reduceLE, Int.reduceLT, Int.reduceEq, Nat.reduceBEq, Nat.reduceEqDiff, look_c, eqN_nil, eqN_l, eqN_r, eqN_c, forall_cs, forall_nl, tk]; exact happ) ?_
            refine dD_pA rfl (.ptr x.id 0) (by simp only [go_sem, reduceCtorEq, Nat.reduceAdd, Nat.reduceMul, Nat.reduceLeDiff, Nat.reduceLT, Int.reduceLE, Int.reduceLT, Int.reduceEq, Nat.reduceBEq, Nat.reduceEqDiff, look_c, eqN_nil, eqN_l, eqN_r, eqN_c, forall_cs, forall_nl]) ?_
            refine dD_pA rfl (.ptr x.id 2) (by simp only [go_sem, reduceCtorEq, Nat.reduceAdd, Nat.reduceMul, Nat.reduceLeDiff, Nat.reduceLT, Int.reduceLE, Int.reduceLT, Int.reduceEq, Nat.reduceBEq, Nat.reduceEqDiff, look_c, eqN_nil, eqN_l, eqN_r, eqN_c, forall_cs, forall_nl]) ?_
            refine dD_t1 (d := [7, 10]) rfl rfl .any rfl (by simp only [go_sem, reduceCtorEq, Nat.reduceAdd, Nat.reduceMul, Nat.reduceLeDiff, Nat.reduceLT, Int.reduceLE, Int.reduceLT, Int.reduceEq, Nat.reduceBEq, Nat.reduceEqDiff, look_c, eqN_nil, eqN_l, eqN_r, eqN_c, forall_cs, forall_nl, g.1, g.2.1, g.2.2, TX.cells, tk, hrx, hxr]; simp only [TX.addRead, List.map_append]; rfl) ?_
            refine dD_end ?_
            have hT0 := hE.tx _ x htx
            have hl1 := lt_of_get hT0.cells
            have hl2 := lt_of_get hT0.tok
            have hk2 : ∀ (a b : Int), EngAt ((s2.set st.length (.cells [i64 a])).set (st.length + 1) (.cells [i64 b])) (E.setTx t.toNat (x.addRead n)) ∧ Fr st E ((s2.set st.length (.cells [i64 a])).set (st.length + 1) (.cells [i64 b])) (E.setTx t.toNat (x.addRead n)) := by
              intro a b
              refine addRead_eng hE ht htx n (by rw [hs2, hs0]; simp) fun j hj => ?_
              rw [List.getElem?_set_ne (by omega), List.getElem?_set_ne (by omega), hs2, hs0, List.set_append_left _ _ hl2, List.set_append_left _ _ (by simpa using hl1), List.getElem?_append_left (by simpa using hj)]
            have hE2 := addRead_eng (s := s2) hE ht htx n (by rw [hs2, hs0]; simp) fun j hj => by
              rw [hs2, hs0, List.set_append_left _ _ hl2, List.set_append_left _ _ (by simpa using hl1), List.getElem?_append_left (by simpa using hj)]
            have f2 : inS s2 E.id = True ∧ isObj s2 E.id = True ∧ objAt s2 E.id = i64 E.clock :: .arr E.vid E.vver E.vars.length :: (E.txs.set t.toNat (some (x.addRead n))).map txSV := cells_facts hE2.1.cells
            have w2' : inS s2 E.vid = True ∧ arrOk s2 E.vid E.vver = True ∧ arrZ s2 E.vid = 3 ∧ arrC s2 E.vid = E.vars.flatMap tvSV := arr_facts hE2.1.vars
            have k6 := cells_facts (show s2[st.length]? = some (.cells [i64 0]) by rw [hs2, List.getElem?_set_ne (by omega), List.getElem?_set_ne (by omega)]; exact b6)
            have k7 := cells_facts (show s2[st.length + 1]? = some (.cells [i64 0]) by rw [hs2, List.getElem?_set_ne (by omega), List.getElem?_set_ne (by omega)]; exact b7)
            have hfin : K (.tuple [i64 y.val, i64 0]) ((s2.set st.length (.cells [i64 y.val])).set (st.length + 1) (.cells [i64 0])) := h _ _ (hk2 y.val 0).1 (hk2 y.val 0).2 (abs_put E t _)
            rw [← hs2]
            simp only [go_sem, reduceCtorEq, Nat.reduceAdd, Nat.reduceMul, Nat.reduceLeDiff, Nat.reduceLT, Int.reduceLE, Int.reduceLT, Int.reduceEq, Nat.reduceBEq, Nat.reduceEqDiff]
            refine awp_drawD [] [8, 9] [([], s2), ([8], s2.set st.length (.cells [i64 y.val])), ([8, 9], (s2.set st.length (.cells [i64 y.val])).set (st.length + 1) (.cells [i64 0]))] [[[]], [[]], [[]], [[]], [[]], [[]], [[]], [[]], [[]], [[8]]] Try.mixed rfl rfl rfl rfl rfl ?_
            refine dD_pA rfl (.ptr E.id 0) (by simp only [go_sem, reduceCtorEq, Nat.reduceAdd, Nat.reduceMul, Nat.reduceLeDiff, Nat.reduceLT, Int.reduceLE, Int.reduceLT, Int.reduceEq, Nat.reduceBEq, Nat.reduceEqDiff, look_c, eqN_nil, eqN_l, eqN_r, eqN_c, forall_cs, forall_nl]) ?_
            refine dD_pA rfl (.ptr E.id 0) (by simp only [go_sem, reduceCtorEq, Nat.reduceAdd, Nat.reduceMul, Nat.reduceLeDiff, Nat.reduceLT, Int.reduceLE, Int.reduceLT, Int.reduceEq, Nat.reduceBEq, Nat.reduceEqDiff, look_c, eqN_nil, eqN_l, eqN_r, eqN_c, forall_cs, forall_nl]) ?_
            refine dD_pA rfl (.ptr E.id 1) (by simp only [go_sem, reduceCtorEq, Nat.reduceAdd, Nat.reduceMul, Nat.reduceLeDiff, Nat.reduceLT, Int.reduceLE, Int.reduceLT, Int.reduceEq, Nat.reduceBEq, Nat.reduceEqDiff, look_c, eqN_nil, eqN_l, eqN_r, eqN_c, forall_cs, forall_nl]) ?_
            refine dD_pA rfl (.arr E.vid E.vver E.vars.length) (by simp only [go_sem, reduceCtorEq, Nat.reduceAdd, Nat.reduceMul, Nat.reduceLeDiff, Nat.reduceLT, Int.reduceLE, Int.reduceLT, Int.reduceEq, Nat.reduceBEq, Nat.reduceEqDiff, look_c, eqN_nil, eqN_l, eqN_r, eqN_c, forall_cs, forall_nl, f2.1, f2.2.1, f2.2.2]) ?_
            refine dD_pA rfl (i64 n) (by simp only [go_sem, reduceCtorEq, Nat.reduceAdd, Nat.reduceMul, Nat.reduceLeDiff, Nat.reduceLT, Int.reduceLE, Int.reduceLT, Int.reduceEq, Nat.reduceBEq, Nat.reduceEqDiff, look_c, eqN_nil, eqN_l, eqN_r, eqN_c, forall_cs, forall_nl]) ?_
            refine dD_pA rfl (.aptr E.vid E.vver (n.toNat * 3)) (by simp only [go_sem, reduceCtorEq, Nat.reduceAdd, Nat.reduceMul, Nat.reduceLeDiff, Nat.reduceLT, Int.reduceLE, Int.reduceLT, Int.reduceEq, Nat.reduceBEq, Nat.reduceEqDiff, look_c, eqN_nil, eqN_l, eqN_r, eqN_c, forall_cs, forall_nl, w2'.1, w2'.2.1, w2'.2.2.1, w2'.2.2.2, hbb.1, hbb.2]) ?_
            refine dD_pA rfl (.aptr E.vid E.vver (n.toNat * 3)) (by simp only [go_sem, reduceCtorEq, Nat.reduceAdd, Nat.reduceMul, Nat.reduceLeDiff, Nat.reduceLT, Int.reduceLE, Int.reduceLT, Int.reduceEq, Nat.reduceBEq, Nat.reduceEqDiff, look_c, eqN_nil, eqN_l, eqN_r, eqN_c, forall_cs, forall_nl, w2'.1, w2'.2.1, w2'.2.2.1, w2'.2.2.2]) ?_
            refine dD_pA rfl (i64 y.val) (by simp only [go_sem, reduceCtorEq, Nat.reduceAdd, Nat.reduceMul, Nat.reduceLeDiff, Nat.reduceLT, Int.reduceLE, Int.reduceLT, Int.reduceEq, Nat.reduceBEq, Nat.reduceEqDiff, look_c, eqN_nil, eqN_l, eqN_r, eqN_c, forall_cs, forall_nl, w2'.1, w2'.2.1, w2'.2.2.1, w2'.2.2.2, hv]) ?_
            refine dD_t1 (d := [8]) rfl rfl .any rfl (by simp only [go_sem, reduceCtorEq, Nat.reduceAdd, Nat.reduceMul, Nat.reduceLeDiff, Nat.reduceLT, Int.reduceLE, Int.reduceLT, Int.reduceEq, Nat.reduceBEq, Nat.reduceEqDiff, look_c, eqN_nil, eqN_l, eqN_r, eqN_c, forall_cs, forall_nl, k6.1, k6.2.1, k6.2.2]) ?_
            refine dD_t1 (d := [8, 9]) rfl rfl .any rfl (by simp only [go_sem, reduceCtorEq, Nat.reduceAdd, Nat.reduceMul, Nat.reduceLeDiff, Nat.reduceLT, Int.reduceLE, Int.reduceLT, Int.reduceEq, Nat.reduceBEq, Nat.reduceEqDiff, look_c, eqN_nil, eqN_l, eqN_r, eqN_c, forall_cs, forall_nl, k6.1, k7.1, k7.2.1, k7.2.2, hn67, hn76]) ?_
            refine dD_end ?_
            simp only [go_sem, reduceCtorEq, Nat.reduceAdd, Nat.reduceMul, Nat.reduceLeDiff, Nat.reduceLT, Int.reduceLE, Int.reduceLT, Int.reduceEq, Nat.reduceBEq, Nat.reduceEqDiff, k6.1, k7.1, k7.2.1, k7.2.2, hn67, hn76]
            exact hfin
          · have hnr : n ∈ x.reads := by simpa [containsF] using d
            rw [if_pos hnr] at h
            refine awp_drawD [] [8, 9] [([], s0), ([8], s0.set st.length (.cells [i64 y.val])), ([8, 9], (s0.set st.length (.cells [i64 y.val])).set (st.length + 1) (.cells [i64 0]))] [[[]], [[]], [[]], [[]], [[]], [[]], [[]], [[]], [[]], [[8]]] Try.mixed rfl rfl rfl rfl rfl ?_
            refine dD_pA rfl (.ptr E.id 0) (by simp only [go_sem, reduceCtorEq, Nat.reduceAdd, Nat.reduceMul, Nat.reduceLeDiff, Nat.reduceLT, Int.reduceLE, Int.reduceLT, Int.reduceEq, Nat.reduceBEq, Nat.reduceEqDiff, look_c, eqN_nil, eqN_l, eqN_r, eqN_c, forall_cs, forall_nl]) ?_
            refine dD_pA rfl (.ptr E.id 0) (by simp only [go_sem, reduceCtorEq, Nat.reduceAdd, Nat.reduceMul, Nat.reduceLeDiff, Nat.reduceLT, Int.reduceLE, Int.reduceLT, Int.reduceEq, Nat.reduceBEq, Nat.reduceEqDiff, look_c, eqN_nil, eqN_l, eqN_r, eqN_c, forall_cs, forall_nl]) ?_
            refine dD_pA rfl (.ptr E.id 1) (by simp only [go_sem, reduceCtorEq, Nat.reduceAdd, Nat.reduceMul, Nat.reduceLeDiff, Nat.reduceLT, Int.reduceLE, Int.reduceLT, Int.reduceEq, Nat.reduceBEq, Nat.reduceEqDiff, look_c, eqN_nil, eqN_l, eqN_r, eqN_c, forall_cs, forall_nl]) ?_
            refine dD_pA rfl (.arr E.vid E.vver E.vars.length) (by simp only [go_sem, reduceCtorEq, Nat.reduceAdd, Nat.reduceMul, Nat.reduceLeDiff, Nat.reduceLT, Int.reduceLE, Int.reduceLT, Int.reduceEq, Nat.reduceBEq, Nat.reduceEqDiff, look_c, eqN_nil, eqN_l, eqN_r, eqN_c, forall_cs, forall_nl, f0.1, f0.2.1, f0.2.2]) ?_
            refine dD_pA rfl (i64 n) (by simp only [go_sem, reduceCtorEq, Nat.reduceAdd, Nat.reduceMul, Nat.reduceLeDiff, Nat.reduceLT, Int.reduceLE, Int.reduceLT, Int.reduceEq, Nat.reduceBEq, Nat.reduceEqDiff, look_c, eqN_nil, eqN_l, eqN_r, eqN_c, forall_cs, forall_nl]) ?_
            refine dD_pA rfl (.aptr E.vid E.vver (n.toNat * 3)) (by simp only [go_sem, reduceCtorEq, Nat.reduceAdd, Nat.reduceMul, Nat.reduceLeDiff, Nat.reduceLT, Int.reduceLE, Int.reduceLT, Int.reduceEq, Nat.reduceBEq, Nat.reduceEqDiff, look_c, eqN_nil, eqN_l, eqN_r, eqN_c, forall_cs, forall_nl, w0'.1, w0'.2.1, w0'.2.2.1, w0'.2.2.2, hbb.1, hbb.2]) ?_
            refine dD_pA rfl (.aptr E.vid E.vver (n.toNat * 3)) (by simp only [go_sem, reduceCtorEq, Nat.reduceAdd, Nat.reduceMul, Nat.reduceLeDiff, Nat.reduceLT, Int.reduceLE, Int.reduceLT, Int.reduceEq, Nat.reduceBEq, Nat.reduceEqDiff, look_c, eqN_nil, eqN_l, eqN_r, eqN_c, forall_cs, forall_nl, w0'.1, w0'.2.1, w0'.2.2.1, w0'.2.2.2]) ?_
            refine dD_pA rfl (i64 y.val) (by simp only [go_sem, reduceCtorEq, Nat.reduceAdd, Nat.reduceMul, Nat.reduceLeDiff, Nat.reduceLT, Int.reduceLE, Int.reduceLT, Int.reduceEq, Nat.reduceBEq, Nat.reduceEqDiff, look_c, eqN_nil, eqN_l, eqN_r, eqN_c, forall_cs, forall_nl, w0'.1, w0'.2.1, w0'.2.2.1, w0'.2.2.2, hv]) ?_
            refine dD_t1 (d := [8]) rfl rfl .any rfl (by simp only [go_sem, reduceCtorEq, Nat.reduceAdd, Nat.reduceMul, Nat.reduceLeDiff, Nat.reduceLT, Int.reduceLE, Int.reduceLT, Int.reduceEq, Nat.reduceBEq, Nat.reduceEqDiff, look_c, eqN_nil, eqN_l, eqN_r, eqN_c, forall_cs, forall_nl, g6.1, g6.2.1, g6.2.2]) ?_
            refine dD_t1 (d := [8, 9]) rfl rfl .any rfl (by simp only [go_sem, reduceCtorEq, Nat.reduceAdd, Nat.reduceMul, Nat.reduceLeDiff, Nat.reduceLT, Int.reduceLE, Int.reduceLT, Int.reduceEq, Nat.reduceBEq, Nat.reduceEqDiff, look_c, eqN_nil, eqN_l, eqN_r, eqN_c, forall_cs, forall_nl, g6.1, g7.1, g7.2.1, g7.2.2, hn67, hn76]) ?_
            refine dD_end ?_
            simp only [go_sem, reduceCtorEq, Nat.reduceAdd, Nat.reduceMul, Nat.reduceLeDiff, Nat.reduceLT, Int.reduceLE, Int.reduceLT, Int.reduceEq, Nat.reduceBEq, Nat.reduceEqDiff, g6.1, g7.1, g7.2.1, g7.2.2, hn67, hn76]
            exact h _ _ (hkeep y.val 0).1 (hkeep y.val 0).2 rfl
      · intro v j hj hv hrest
        refine retR_q (rs := #[ResultVar.cell 6 3, ResultVar.cell 7 27]) Try.results17 ?_
        simp only [txSV, go_sem, reduceCtorEq, Nat.reduceAdd, Nat.reduceMul, Nat.reduceLeDiff, Nat.reduceLT, Int.reduceLE, Int.reduceLT, Int.reduceEq, Nat.reduceBEq, Nat.reduceEqDiff, restR_n, restR_r, rest2R_n, g.1, g.2.1, g.2.2, TX.cells, g6.1, g6.2.1, g6.2.2, g7.1, g7.2.1, g7.2.2, hn67, hn76]
        have htop : topGet x.abs.maps n = some v := topGet_some (by rw [hT.len]; exact hj) hv (fun i z1 z2 => hrest i z1 (by rw [hT.len] at z2; exact z2))
        simp only [Option.map_some, if_true, htop] at h
        exact h _ _ (hkeep v 0).1 (hkeep v 0).2 rfl

end Go.Proofs
