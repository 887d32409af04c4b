/- node, in (which defers), round, leaf. -/
import Derived.Test.YtnjiphlokjfdlaaDoorW1
set_option linter.unusedSimpArgs false
set_option linter.unusedVariables false
set_option maxRecDepth 8000
namespace Go.AL
/-- A node as it is made: what it holds may be appended to. -/
def ndFull (k : Int) (t : Tx) (m a : Int) (x : SV) : SV := .agg [.sc (.int .i64 k), .sc (.string (ba t)), .sc (.int .i64 m), .sc (.int .i64 a), .slice .full 0 [], x]
theorem le_nds {m : AL.Mode} {z : Nat} {l : List Nd} (hz : z = 6 ∨ l = []) : SVle (norm1 (.slice m z (l.map ndSV))) (.slice .imm 6 (l.map ndSV)) := by
  rcases hz with rfl | rfl
  · exact SVle.refl _
  · exact SVle.nil .imm _ _ (.inr rfl)
theorem le_tx2 {m : AL.Mode} {z : Nat} {l : List Tx} (hz : z = 1 ∨ l = []) : SVle (norm1 (.slice m z (l.map txSV))) (.slice .imm 1 (l.map txSV)) := by
  rcases hz with rfl | rfl
  · exact SVle.refl _
  · exact SVle.nil .imm _ _ (.inr rfl)
/-- A node with slices of whatever make. -/
def ndRaw (m1 m2 : AL.Mode) (z1 z2 : Nat) (n : Nd) : SV := .agg [.sc (.int .i64 n.kind), .sc (.string (ba n.text)), .sc (.int .i64 n.num), .sc (.int .i64 n.pos), .slice m1 z1 (n.names.map txSV), .slice m2 z2 (n.kids.map ndSV)]
theorem le_raw {m1 m2 : AL.Mode} {z1 z2 : Nat} {n : Nd} (h1 : z1 = 1 ∨ n.names = []) (h2 : z2 = 6 ∨ n.kids = []) : SVle (norm (ndRaw m1 m2 z1 z2 n)) (ndSV n) := by
  rw [ndSV_eq]
  exact SVle.agg (.cons (SVle.refl _) (.cons (SVle.refl _) (.cons (SVle.refl _) (.cons (SVle.refl _) (.cons (le_tx2 h1) (.cons (le_nds h2) .nil))))))
theorem ids_raw {m1 m2 : AL.Mode} {z1 z2 : Nat} {nd : Nd} (n : Nat) : Ids n (norm (ndRaw m1 m2 z1 z2 nd)) := by
  show Ids n (.agg _)
  rw [ids_agg]
  simp only [norm1, List.map_cons, List.map_nil, List.forall_mem_cons, ids_sc, true_and]
  exact ⟨ids_txs n _ (.inl rfl) z1 _, ids_nds n _ (.inl rfl) z2 _, fun x hx => by cases hx⟩
def LeK (K : SV → St → Prop) : SV → St → Prop := fun x s => ∃ y, SVle x y ∧ K y s
theorem acalls_leK {P : Program} {f : FuncId} {args : List SV} {K : SV → St → Prop} {st : St} (h : ACalls P f args (LeK K) st) : ACalls P f args K st := acalls_le h
/-- The end of a call that made a node. -/
theorem fin_nd {T : List Tk} {pid : Nat} {p' : PS} {nd : Nd} {st : St} {K : SV → St → Prop} {m1 m2 : AL.Mode} {z1 z2 : Nat} (hk : K (ndSV nd) (st.set pid (.cells (psL T p')))) (h1 : z1 = 1 ∨ nd.names = []) (h2 : z2 = 6 ∨ nd.kids = []) {ex : St} :
    FinM st (LeK K) (ndRaw m1 m2 z1 z2 nd) (st.set pid (.cells (psL T p')) ++ ex) :=
  ⟨_, ex, rfl, (Mod.refl _).set _ _ (objs_ps _ _ _), ids_raw _, _, le_raw h1 h2, hk⟩
theorem fin_ndz {T : List Tk} {pid : Nat} {p' : PS} {nd : Nd} {st : St} {K : SV → St → Prop} {m1 m2 : AL.Mode} {z1 z2 : Nat} (hp : PAt T pid p' st) (hk : K (ndSV nd) (st.set pid (.cells (psL T p')))) (h1 : z1 = 1 ∨ nd.names = []) (h2 : z2 = 6 ∨ nd.kids = []) {ex : St} :
    FinM st (LeK K) (ndRaw m1 m2 z1 z2 nd) (st ++ ex) := by
  have := fin_nd (m1 := m1) (m2 := m2) (z1 := z1) (z2 := z2) hk h1 h2 (ex := ex)
  rwa [set_id hp] at this
/-- The end of a call that hands on a node. -/
theorem fin_nd' {T : List Tk} {pid : Nat} {p' : PS} {nd : Nd} {st : St} {K : SV → St → Prop} (hk : K (ndSV nd) (st.set pid (.cells (psL T p')))) {ex : St} :
    FinM st (LeK K) (ndSV nd) (st.set pid (.cells (psL T p')) ++ ex) :=
  ⟨_, ex, rfl, (Mod.refl _).set _ _ (objs_ps _ _ _), by rw [norm_nd]; exact ids_nd _ _, _, by rw [norm_nd]; exact SVle.refl _, hk⟩
end Go.AL
namespace Go.Proofs
open Go Go.AL
/-- What a function of the parser comes to: a node. -/
def HC (T : List Tk) (pid : Nat) (f : FuncId) (e : PM Nd) : Prop := ∀ (p : PS) (r : Nd) (p' : PS), e p = some (r, p') → ∀ (K : SV → St → Prop) (st : St), PAt T pid p st → K (ndSV r) (st.set pid (.cells (psL T p'))) → ACalls Tryd.prog f [.ptr pid 0] K st
theorem node_c {k a : Int} {t : Tx} {x : SV} (h1 : x.cells = [x]) (h2 : shapeOk x = true) (h3 : cellOk x = true) (h4 : strip x = x) (h5 : ∀ p, gIf p x = True) {K : SV → St → Prop} {st : St} (hi : Ids st.length x) (hk : K (ndFull k t 0 a x) st) :
    ACalls Tryd.prog 22 [.sc (.int .i64 k), .sc (.int .i64 a), .sc (.string (ba t)), x] K st := by
  refine acalls_go_mod0 [] Tryd.func22 rfl Tryd.results22 Tryd.ntmps22 ?_
  simp only [go_sem, reduceCtorEq, Nat.reduceAdd, Nat.reduceMul, Nat.reduceLeDiff, Nat.reduceLT, Int.reduceLE, Int.reduceLT, Int.reduceEq, Nat.reduceBEq, Nat.reduceEqDiff, h1, h2, h3, h4, h5]
  exact ⟨st, _, rfl, Mod.refl _, by
    rw [ids_agg]
    simp only [List.forall_mem_cons, ids_sc, true_and]
    exact ⟨ids_slice (.inr rfl) (fun x hx => by cases hx), hi, fun x hx => by cases hx⟩, hk⟩
theorem le_norm {x y : SV} (h : SVle (norm x) y) : SVle x y := fun st σ w v hr => h st σ w v hr.norm
/-- node: as it is read. -/
theorem nodeN_c {k a : Int} {t : Tx} {z : Nat} {kids : List Nd} (hz : z = 6 ∨ kids = []) {K : SV → St → Prop} {st : St} (hk : K (ndSV (nodeF k a t kids)) st) :
    ACalls Tryd.prog 22 [.sc (.int .i64 k), .sc (.int .i64 a), .sc (.string (ba t)), .slice .full z (kids.map ndSV)] K st :=
  acalls_leK (node_c rfl rfl rfl rfl (fun _ => rfl) (ids_nds _ _ (.inr rfl) _ _) ⟨_, le_norm (le_raw (n := nodeF k a t kids) (m1 := .full) (m2 := .full) (z1 := 0) (z2 := z) (.inr rfl) hz), hk⟩)
set_option maxHeartbeats 4000000 in
theorem in_c {T : List Tk} {pid : Nat} {g : FuncId} {e : PM Nd} (he : HC T pid g e) (hg : aBody Tryd.prog g = true) {p p' : PS} {r : Nd} (h : inF T e p = some (r, p')) {K : SV → St → Prop} {st : St} (hp : PAt T pid p st) (hk : K (ndSV r) (st.set pid (.cells (psL T p')))) :
    ACalls Tryd.prog 28 [.ptr pid 0, .func (.func g) [] []] K st := by
  refine acalls_leK (acalls_mod (acalls_goD Tryd.func28 rfl Tryd.results28 Tryd.ntmps28 ?_))
  have y := cells_facts hp
  unfold psL at y
  unfold inF at h
  by_cases hd : 40 ≤ p.deep
  · rw [if_pos hd] at h
    cases hf : failF T 15 p with
    | none => rw [hf] at h; cases h
    | some p1 =>
      have h1 : p1.e ≠ 0 := by
        unfold failF at hf
        split at hf
        · cases hl : T[p.pos]? with
          | none => rw [hl] at hf; cases hf
          | some t => rw [hl] at hf; cases hf; show (15 : Int) ≠ 0; decide
        · rename_i h0; cases hf; exact h0
      rw [hf] at h
      simp only [Option.bind_some] at h
      rw [if_pos h1] at h
      cases h
      have c1 : decide ((40 : Int) ≤ (p.deep : Int)) = true := by simp; omega
      have c2 : (p'.e != 0) = true := by simp [h1]
      have y1 := cells_facts (psat_set (p' := p') hp)
      unfold psL at y1
      refine awpd_seqc [] ?_
      simp only [go_sem, reduceCtorEq, Nat.reduceAdd, Nat.reduceMul, Nat.reduceLeDiff, Nat.reduceLT, Int.reduceLE, Int.reduceLT, Int.reduceEq, Nat.reduceBEq, Nat.reduceEqDiff, thenD_n, thenD_r]
      refine awpd_seqc [] ?_
      simp only [go_sem, reduceCtorEq, Nat.reduceAdd, Nat.reduceMul, Nat.reduceLeDiff, Nat.reduceLT, Int.reduceLE, Int.reduceLT, Int.reduceEq, Nat.reduceBEq, Nat.reduceEqDiff, thenD_n, thenD_r, y.1, y.2.1, y.2.2, c1, ge_iff_le]
      refine fail_c hf (psat_app hp) fun x => ?_
      simp only [go_sem, reduceCtorEq, Nat.reduceAdd, Nat.reduceMul, Nat.reduceLeDiff, Nat.reduceLT, Int.reduceLE, Int.reduceLT, Int.reduceEq, Nat.reduceBEq, Nat.reduceEqDiff, inS_get hp, thenD_n]
      refine awpd_seqc [] ?_
      unfold psL
      simp only [go_sem, reduceCtorEq, Nat.reduceAdd, Nat.reduceMul, Nat.reduceLeDiff, Nat.reduceLT, Int.reduceLE, Int.reduceLT, Int.reduceEq, Nat.reduceBEq, Nat.reduceEqDiff, thenD_n, thenD_r, y.1, y1.2.1, y1.2.2, inS_get hp, c2, dsQ_n]
      exact fin_nd hk (.inr rfl) (.inr rfl)
  · by_cases h0 : p.e = 0
    · rw [if_neg hd] at h
      simp only [Option.bind_some] at h
      rw [if_neg (by simp [h0])] at h
      cases hx : e { p with deep := p.deep + 1 } with
      | none => rw [hx] at h; cases h
      | some q =>
        obtain ⟨x, p1⟩ := q
        rw [hx] at h
        simp only [Option.bind_some] at h
        split at h
        · cases h
        rename_i hdp
        simp only [Option.some.injEq, Prod.mk.injEq] at h
        obtain ⟨rfl, rfl⟩ := h
        have c1 : decide ((40 : Int) ≤ (p.deep : Int)) = false := by simp; omega
        have c2 : (p.e != 0) = false := by simp [h0]
        refine awpd_seqc [] ?_
        simp only [go_sem, reduceCtorEq, Nat.reduceAdd, Nat.reduceMul, Nat.reduceLeDiff, Nat.reduceLT, Int.reduceLE, Int.reduceLT, Int.reduceEq, Nat.reduceBEq, Nat.reduceEqDiff, thenD_n, thenD_r]
        refine awpd_seqc [] ?_
        simp only [go_sem, reduceCtorEq, Nat.reduceAdd, Nat.reduceMul, Nat.reduceLeDiff, Nat.reduceLT, Int.reduceLE, Int.reduceLT, Int.reduceEq, Nat.reduceBEq, Nat.reduceEqDiff, thenD_n, thenD_r, y.1, y.2.1, y.2.2, c1, ge_iff_le]
        refine awpd_seqc [] ?_
        simp only [go_sem, reduceCtorEq, Nat.reduceAdd, Nat.reduceMul, Nat.reduceLeDiff, Nat.reduceLT, Int.reduceLE, Int.reduceLT, Int.reduceEq, Nat.reduceBEq, Nat.reduceEqDiff, thenD_n, thenD_r, y.1, y.2.1, y.2.2, c2]
        refine awpd_seqc [] ?_
        have hw : IntKind.i64.wrap ((p.deep : Int) + 1) = ((p.deep + 1 : Nat) : Int) := by rw [IntWalk.i64_in _ (by omega)]; rfl
        simp only [go_sem, reduceCtorEq, Nat.reduceAdd, Nat.reduceMul, Nat.reduceLeDiff, Nat.reduceLT, Int.reduceLE, Int.reduceLT, Int.reduceEq, Nat.reduceBEq, Nat.reduceEqDiff, thenD_n, thenD_r, y.1, y.2.1, y.2.2, hw]
        refine awpd_seq (awpd_deferF rfl (by simp) ?_)
        simp only [go_sem, reduceCtorEq, Nat.reduceAdd, Nat.reduceMul, Nat.reduceLeDiff, Nat.reduceLT, Int.reduceLE, Int.reduceLT, Int.reduceEq, Nat.reduceBEq, Nat.reduceEqDiff, thenD_n]
        refine awpd_seqc [] ?_
        simp only [go_sem, reduceCtorEq, Nat.reduceAdd, Nat.reduceMul, Nat.reduceLeDiff, Nat.reduceLT, Int.reduceLE, Int.reduceLT, Int.reduceEq, Nat.reduceBEq, Nat.reduceEqDiff, hg]
        refine he _ _ _ hx _ _ (psat_seta hp) ?_
        simp only [go_sem, reduceCtorEq, Nat.reduceAdd, Nat.reduceMul, Nat.reduceLeDiff, Nat.reduceLT, Int.reduceLE, Int.reduceLT, Int.reduceEq, Nat.reduceBEq, Nat.reduceEqDiff, inS_get hp]
        simp only [thenD_n]
        refine awpd_c [] ?_
        simp only [go_sem, reduceCtorEq, Nat.reduceAdd, Nat.reduceMul, Nat.reduceLeDiff, Nat.reduceLT, Int.reduceLE, Int.reduceLT, Int.reduceEq, Nat.reduceBEq, Nat.reduceEqDiff, dsQ_c, dsQ_n]
        refine acallsD_go [] Tryd.func51 rfl Tryd.results51 Tryd.ntmps51 ?_
        have y1 := cells_facts (psat_set (p' := p1) hp)
        unfold psL at y1
        have hw2 : IntKind.i64.wrap ((p1.deep : Int) - 1) = ((p1.deep - 1 : Nat) : Int) := by rw [IntWalk.i64_in _ (by omega)]; omega
        unfold psL
        simp only [go_sem, reduceCtorEq, Nat.reduceAdd, Nat.reduceMul, Nat.reduceLeDiff, Nat.reduceLT, Int.reduceLE, Int.reduceLT, Int.reduceEq, Nat.reduceBEq, Nat.reduceEqDiff, y1.2.1, y1.2.2, inS_get hp, hw2]
        exact fin_nd' hk
    · rw [if_neg hd] at h
      simp only [Option.bind_some] at h
      rw [if_pos h0] at h
      cases h
      have c1 : decide ((40 : Int) ≤ (p.deep : Int)) = false := by simp; omega
      have c2 : (p.e != 0) = true := by simp [h0]
      refine awpd_seqc [] ?_
      simp only [go_sem, reduceCtorEq, Nat.reduceAdd, Nat.reduceMul, Nat.reduceLeDiff, Nat.reduceLT, Int.reduceLE, Int.reduceLT, Int.reduceEq, Nat.reduceBEq, Nat.reduceEqDiff, thenD_n, thenD_r]
      refine awpd_seqc [] ?_
      simp only [go_sem, reduceCtorEq, Nat.reduceAdd, Nat.reduceMul, Nat.reduceLeDiff, Nat.reduceLT, Int.reduceLE, Int.reduceLT, Int.reduceEq, Nat.reduceBEq, Nat.reduceEqDiff, thenD_n, thenD_r, y.1, y.2.1, y.2.2, c1, ge_iff_le]
      refine awpd_seqc [] ?_
      simp only [go_sem, reduceCtorEq, Nat.reduceAdd, Nat.reduceMul, Nat.reduceLeDiff, Nat.reduceLT, Int.reduceLE, Int.reduceLT, Int.reduceEq, Nat.reduceBEq, Nat.reduceEqDiff, thenD_n, thenD_r, y.1, y.2.1, y.2.2, c2, dsQ_n]
      exact fin_ndz hp hk (.inr rfl) (.inr rfl)
theorem round_c {T : List Tk} (hT : T.length ≤ 100000) {pid : Nat} {g : FuncId} {e : PM Nd} (he : HC T pid g e) (hg : aBody Tryd.prog g = true) {p p' : PS} {r : Nd} (h : roundF T e p = some (r, p')) {K : SV → St → Prop} {st : St} (hp : PAt T pid p st) (hk : K (ndSV r) (st.set pid (.cells (psL T p')))) :
    ACalls Tryd.prog 91 [.ptr pid 0, .func (.func g) [] []] K st := by
  refine acalls_leK (acalls_go_mod [] Tryd.func91 rfl Tryd.results91 Tryd.ntmps91 ?_)
  unfold roundF at h
  simp only [Option.bind_eq_some_iff, Option.map_eq_some_iff, Prod.exists, Prod.mk.injEq] at h
  obtain ⟨p1, h1, x, p2, h2, p3, h3, rfl, rfl⟩ := h
  simp only [go_sem, reduceCtorEq, Nat.reduceAdd, Nat.reduceMul, Nat.reduceLeDiff, Nat.reduceLT, Int.reduceLE, Int.reduceLT, Int.reduceEq, Nat.reduceBEq, Nat.reduceEqDiff]
  refine must_c hT h1 (psat_app hp) fun _ => ?_
  simp only [go_sem, reduceCtorEq, Nat.reduceAdd, Nat.reduceMul, Nat.reduceLeDiff, Nat.reduceLT, Int.reduceLE, Int.reduceLT, Int.reduceEq, Nat.reduceBEq, Nat.reduceEqDiff, inS_get hp]
  refine in_c he hg h2 (psat_seta hp) ?_
  simp only [go_sem, reduceCtorEq, Nat.reduceAdd, Nat.reduceMul, Nat.reduceLeDiff, Nat.reduceLT, Int.reduceLE, Int.reduceLT, Int.reduceEq, Nat.reduceBEq, Nat.reduceEqDiff, inS_get hp]
  refine must_c hT h3 (psat_seta hp) fun _ => ?_
  simp only [go_sem, reduceCtorEq, Nat.reduceAdd, Nat.reduceMul, Nat.reduceLeDiff, Nat.reduceLT, Int.reduceLE, Int.reduceLT, Int.reduceEq, Nat.reduceBEq, Nat.reduceEqDiff, inS_get hp]
  exact fin_nd' hk
def kindEs (kinds : List (Int × Int)) : List (Value × SV) := kinds.map fun q => (.int .i64 q.1, .sc (.int .i64 q.2))
def kindOfT (kinds : List (Int × Int)) (n : Int) : Int := ((kinds.find? fun q => q.1 == n).map (·.2)).getD 0
theorem keyEq_i (n m : Int) : keyEq (.int .i64 n) (.int .i64 m) = decide (n = m) := by
  have := keyEq1_iff (d := .int .i64) (a := .int .i64 n) (b := .int .i64 m) (by simp [keyFits]) (by simp [keyFits])
  by_cases hc : n = m
  · simp only [hc, decide_true]; rw [hc] at this; exact this.2 rfl
  · simp only [hc, decide_false]
    cases hk : keyEq (.int .i64 n) (.int .i64 m) with
    | false => rfl
    | true => exact absurd (Value.int.inj (this.1 hk)).2 hc
theorem kind_get (kinds : List (Int × Int)) (n : Int) : ∃ b, getOr (kindEs kinds) (.sc (.int .i64 0)) n = (.sc (.int .i64 (kindOfT kinds n)), b) := by
  induction kinds with
  | nil => exact ⟨false, rfl⟩
  | cons q r ih =>
    obtain ⟨b, hb⟩ := ih
    unfold getOr keyIdx kindEs kindOfT at *
    by_cases hc : q.1 = n
    · have h2 : (q.1 == n) = true := by simp [hc]
      refine ⟨true, ?_⟩
      simp only [List.map_cons, List.findIdx?_cons, keyEq_i, hc, decide_true, if_true, List.find?_cons, BEq.rfl]
      rfl
    · have h2 : (q.1 == n) = false := by simp [hc]
      have h3 : decide (n = q.1) = false := by simp; omega
      simp only [List.map_cons, List.findIdx?_cons, keyEq_i, h3, Bool.false_eq_true, if_false, List.find?_cons, h2]
      cases hx : List.findIdx? (fun p => keyEq (Value.int IntKind.i64 n) p.1) (r.map fun q => (Value.int .i64 q.1, SV.sc (.int .i64 q.2))) with
      | none =>
        rw [hx] at hb
        exact ⟨b, hb⟩
      | some j =>
        rw [hx] at hb
        exact ⟨b, by simpa using hb⟩
theorem kind_keys (kinds : List (Int × Int)) : IntKeys (kindEs kinds) := by
  intro q hq
  obtain ⟨a, _, rfl⟩ := List.mem_map.1 hq
  exact ⟨a.1, rfl⟩
/-- A leaf: what it has may be appended to. -/
def ndE (r : Nd) : SV := ndRaw .full .full 0 0 r
theorem fin_ndE {T : List Tk} {pid : Nat} {p' : PS} {k m a : Int} {t : Tx} {st : St} {K : SV → St → Prop} (hk : K (ndE (.mk k t m a [] [])) (st.set pid (.cells (psL T p')))) {ex : St} :
    FinM0 st K (.agg [.sc (.int .i64 k), .sc (.string (ba t)), .sc (.int .i64 m), .sc (.int .i64 a), .slice .full 0 [], .slice .full 0 []]) (st.set pid (.cells (psL T p')) ++ ex) :=
  ⟨_, ex, rfl, (Mod.refl _).set _ _ (objs_ps _ _ _), by
    rw [ids_agg]
    simp only [List.forall_mem_cons, ids_sc, true_and]
    exact ⟨ids_slice (.inr rfl) (fun x hx => by cases hx), ids_slice (.inr rfl) (fun x hx => by cases hx), fun x hx => by cases hx⟩, hk⟩
set_option maxHeartbeats 4000000 in
theorem leaf_c {T : List Tk} (hT : T.length ≤ 100000) {pid mid : Nat} {kinds : List (Int × Int)} {p p' : PS} {r : Nd} (h : leafF T kinds p = some (r, p')) {K : SV → St → Prop} {st : St} (hp : PAt T pid p st) (hm : st[mid]? = some (.map (kindEs kinds)))
    (hk : K (ndE r) (st.set pid (.cells (psL T p')))) : ACalls Tryd.prog 102 [.ptr pid 0, .mp mid] K st := by
  refine acalls_go_mod0 [] Tryd.func102 rfl Tryd.results102 Tryd.ntmps102 ?_
  unfold leafF at h
  rw [Option.bind_eq_some_iff] at h
  obtain ⟨t, hl, h⟩ := h
  change (if kindOfT kinds t.kind = 0 then _ else _) = _ at h
  obtain ⟨b, hb⟩ := kind_get kinds t.kind
  simp only [go_sem, reduceCtorEq, Nat.reduceAdd, Nat.reduceMul, Nat.reduceLeDiff, Nat.reduceLT, Int.reduceLE, Int.reduceLT, Int.reduceEq, Nat.reduceBEq, Nat.reduceEqDiff]
  refine look_c hl (psat_app hp) ?_
  have hmg := fun ex => mapGet_int (P := Tryd.prog) (t := 111) (n := t.kind) (st := st ++ ex) Tryd.amap111 Tryd.zeroSV3 (map_facts (get_app hm ex)).2 (kind_keys kinds)
  rw [hb] at hmg
  by_cases hz : kindOfT kinds t.kind = 0
  · rw [if_pos hz] at h
    rw [Option.map_eq_some_iff] at h
    obtain ⟨p1, hf, h⟩ := h
    cases h
    have c1 : (kindOfT kinds t.kind == 0) = true := by simp [hz]
    simp only [go_sem, reduceCtorEq, Nat.reduceAdd, Nat.reduceMul, Nat.reduceLeDiff, Nat.reduceLT, Int.reduceLE, Int.reduceLT, Int.reduceEq, Nat.reduceBEq, Nat.reduceEqDiff, hmg, c1, Option.isSome_some]
    refine fail_c hf (psat_app hp) fun _ => ?_
    simp only [go_sem, reduceCtorEq, Nat.reduceAdd, Nat.reduceMul, Nat.reduceLeDiff, Nat.reduceLT, Int.reduceLE, Int.reduceLT, Int.reduceEq, Nat.reduceBEq, Nat.reduceEqDiff, inS_get hp]
    exact fin_ndE hk
  · rw [if_neg hz] at h
    rw [Option.map_eq_some_iff] at h
    obtain ⟨⟨t1, p1⟩, ht, h⟩ := h
    cases h
    have c1 : (kindOfT kinds t.kind == 0) = false := by simp [hz]
    simp only [go_sem, reduceCtorEq, Nat.reduceAdd, Nat.reduceMul, Nat.reduceLeDiff, Nat.reduceLT, Int.reduceLE, Int.reduceLT, Int.reduceEq, Nat.reduceBEq, Nat.reduceEqDiff, hmg, c1, Option.isSome_some]
    refine take_c hT ht (psat_app hp) ?_
    simp only [go_sem, reduceCtorEq, Nat.reduceAdd, Nat.reduceMul, Nat.reduceLeDiff, Nat.reduceLT, Int.reduceLE, Int.reduceLT, Int.reduceEq, Nat.reduceBEq, Nat.reduceEqDiff, inS_get hp, hmg]
    exact fin_ndE hk
end Go.Proofs
