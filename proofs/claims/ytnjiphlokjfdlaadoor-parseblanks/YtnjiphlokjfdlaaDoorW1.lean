/- What stands for tokens, nodes and the parser's state in memory; look, is, node. -/
import Derived.Test.YtnjiphlokjfdlaaDoorM5
import Derived.Test.YtnjiphlokjfdlaaDoorFacts
set_option linter.unusedSimpArgs false
set_option linter.unusedVariables false
set_option maxRecDepth 8000
namespace Go.AL
def tkSV (t : Tk) : SV := .agg [.sc (.int .i64 t.kind), .sc (.string (ba t.text)), .sc (.int .i64 t.num), .sc (.int .i64 t.pos)]
mutual
def ndSV : Nd → SV
  | .mk k t n a ns ks => .agg [.sc (.int .i64 k), .sc (.string (ba t)), .sc (.int .i64 n), .sc (.int .i64 a), .slice .imm 1 (ns.map fun x => .sc (.string (ba x))), .slice .imm 6 (ndSVs ks)]
def ndSVs : List Nd → List SV
  | [] => []
  | n :: r => ndSV n :: ndSVs r
end
theorem ndSVs_eq (l : List Nd) : ndSVs l = l.map ndSV := by
  induction l with
  | nil => rfl
  | cons n r ih => simp [ndSVs, ih]
def txSV (x : Tx) : SV := .sc (.string (ba x))
def ndCells (n : Nd) : List SV := [.sc (.int .i64 n.kind), .sc (.string (ba n.text)), .sc (.int .i64 n.num), .sc (.int .i64 n.pos), .slice .imm 1 (n.names.map txSV), .slice .imm 6 (n.kids.map ndSV)]
theorem ndSV_eq (n : Nd) : ndSV n = .agg [.sc (.int .i64 n.kind), .sc (.string (ba n.text)), .sc (.int .i64 n.num), .sc (.int .i64 n.pos), .slice .imm 1 (n.names.map txSV), .slice .imm 6 (n.kids.map ndSV)] := by
  cases n; simp [ndSV, ndSVs_eq, Nd.kind, Nd.text, Nd.num, Nd.pos, Nd.names, Nd.kids, txSV, Function.comp_def]
theorem cells_nd (n : Nd) : (ndSV n).cells = [.sc (.int .i64 n.kind), .sc (.string (ba n.text)), .sc (.int .i64 n.num), .sc (.int .i64 n.pos), .slice .imm 1 (n.names.map txSV), .slice .imm 6 (n.kids.map ndSV)] := by rw [ndSV_eq]; rfl
theorem cells_tk (t : Tk) : (tkSV t).cells = [.sc (.int .i64 t.kind), .sc (.string (ba t.text)), .sc (.int .i64 t.num), .sc (.int .i64 t.pos)] := rfl
def psL (T : List Tk) (p : PS) : List SV := [.slice .imm 4 (T.map tkSV), .sc (.int .i64 p.pos), .sc (.int .i64 p.deep), .sc (.bool p.flat), .sc (.int .i64 p.bad), .sc (.int .i64 p.e)]
def PAt (T : List Tk) (pid : Nat) (p : PS) (st : St) : Prop := st[pid]? = some (.cells (psL T p))
theorem norm_nd (n : Nd) : norm (ndSV n) = ndSV n := by rw [ndSV_eq]; rfl
theorem norm1_nd (n : Nd) : norm1 (ndSV n) = ndSV n := by rw [ndSV_eq]; rfl
theorem shape_nd (n : Nd) : shapeOk (ndSV n) = true := by rw [ndSV_eq]; rfl
theorem elem_nd (n : Nd) : elemOk (ndSV n) = true := by rw [ndSV_eq]; rfl
theorem strip_nd (n : Nd) : strip (ndSV n) = ndSV n := by rw [ndSV_eq]; rfl
theorem gIf_nd (n : Nd) (p : Prop) : gIf p (ndSV n) = True := by rw [ndSV_eq]; rfl
theorem nd_len (n : Nd) : (ndSV n).cells.length = 6 := by rw [cells_nd]; rfl
theorem all_nd (n : Nd) : (ndSV n).cells.all cellOk = true := elem_nd n
theorem cellsOf_nd {P : Program} {t : TypeId} (n : Nd) (h1 : aAgg P t = some true) (h2 : aSize P t = some 6) : cellsOf P t (ndSV n).cells = some (ndSV n) := by
  rw [cells_nd, ndSV_eq]
  simp [cellsOf, h1, h2]
theorem ids_tk (n : Nat) (t : Tk) : Ids n (tkSV t) = True := eq_true (by
  unfold tkSV; simp only [ids_agg, List.forall_mem_cons, ids_sc, true_and]; exact fun x hx => by cases hx)
theorem ids_txs (n : Nat) (m : AL.Mode) (hm : m = .imm ∨ m = .full) (z : Nat) (l : List Tx) : Ids n (.slice m z (l.map txSV)) :=
  ids_slice hm fun x hx y hy => by
    obtain ⟨t, _, rfl⟩ := List.mem_map.1 hx
    simp only [txSV, SV.cells, List.mem_singleton] at hy
    subst hy; exact .sc _
mutual
theorem ids_nd (n : Nat) : ∀ x : Nd, Ids n (ndSV x)
  | .mk k t m a ns ks => by
    simp only [ndSV, ids_agg, List.forall_mem_cons, ids_sc, true_and]
    exact ⟨ids_txs n _ (.inl rfl) 1 ns, ids_slice (.inl rfl) (ids_ndL n ks), fun x hx => by cases hx⟩
theorem ids_ndL (n : Nat) : ∀ l : List Nd, ∀ x ∈ ndSVs l, ∀ y ∈ x.cells, Ids n y
  | [] => fun x hx => by cases hx
  | a :: r => fun x hx y hy => by
    simp only [ndSVs, List.mem_cons] at hx
    rcases hx with rfl | hx
    · have := ids_nd n a
      rw [ndSV_eq, ids_agg] at this
      rw [cells_nd] at hy
      exact this y hy
    · exact ids_ndL n r x hx y hy
end
theorem ids_nds (n : Nat) (m : AL.Mode) (hm : m = .imm ∨ m = .full) (z : Nat) (l : List Nd) : Ids n (.slice m z (l.map ndSV)) := by
  have := ids_ndL n l
  rw [ndSVs_eq] at this
  exact ids_slice hm this
theorem tl_ba (l : Tx) : ByteArray.toList (ba l) = l := by rw [ByteArray.toList_eq]
theorem tl_mk (a : Array UInt8) : ByteArray.toList ⟨a⟩ = a.toList := by rw [ByteArray.toList_eq]
theorem objs_ps (n : Nat) (T : List Tk) (p : PS) : ObIds n (.cells (psL T p)) := by
  have : ∀ x ∈ psL T p, Ids n x := by
    unfold psL
    simp only [List.forall_mem_cons, ids_sc, true_and]
    refine ⟨ids_slice (.inl rfl) fun x hx y hy => ?_, fun x hx => by cases hx⟩
    obtain ⟨t, _, rfl⟩ := List.mem_map.1 hx
    rw [cells_tk] at hy
    simp only [List.mem_cons, List.not_mem_nil, or_false] at hy
    rcases hy with rfl | rfl | rfl | rfl <;> exact .sc _
  exact fun j hj => this _ (by
    rw [List.getD_eq_getElem?_getD, List.getElem?_eq_getElem hj]
    exact List.getElem_mem hj)
theorem set_id {T : List Tk} {pid : Nat} {p : PS} {st : St} (hp : PAt T pid p st) : st.set pid (.cells (psL T p)) = st := by
  obtain ⟨h1, h2⟩ := List.getElem?_eq_some_iff.1 hp
  rw [← h2, List.set_getElem_self]
theorem psat_set {T : List Tk} {pid : Nat} {p p' : PS} {st : St} (hp : PAt T pid p st) : PAt T pid p' (st.set pid (.cells (psL T p'))) := set_get (lt_of_get hp)
theorem psat_seta {T : List Tk} {pid : Nat} {p p' : PS} {st ex : St} (hp : PAt T pid p st) : PAt T pid p' (st.set pid (.cells (psL T p')) ++ ex) := get_app (psat_set hp) ex
theorem psat_app {T : List Tk} {pid : Nat} {p : PS} {st ex : St} (hp : PAt T pid p st) : PAt T pid p (st ++ ex) := get_app hp ex
theorem ids_none (n : Nat) : Ids n (oneOf []) = True := eq_true (.tuple _ (by intro i hi; cases hi))
theorem ids_scv (v : Value) (n : Nat) : Ids n (.sc v) = True := eq_true (.sc _)
theorem fin_m0 {st : St} {K : SV → St → Prop} {x y : SV} {ex : St} (hi : ∀ n, Ids n y = True) (hk : K y st) (hx : norm x = y) : FinM st K x (st ++ ex) := by
  subst hx; exact ⟨st, ex, rfl, Mod.refl _, by rw [hi]; trivial, hk⟩
theorem fin_z {T : List Tk} {pid : Nat} {p : PS} {st : St} {K : SV → St → Prop} {x y : SV} {ex : St} (hp : PAt T pid p st) (hi : ∀ n, Ids n y = True) (hk : K y (st.set pid (.cells (psL T p)))) (hx : norm x = y) : FinM st K x (st ++ ex) :=
  fin_m0 hi (by rw [set_id hp] at hk; exact hk) hx
theorem fin_z1 {T : List Tk} {pid : Nat} {p : PS} {st : St} {K : SV → St → Prop} {x y : SV} (hp : PAt T pid p st) (hi : ∀ n, Ids n y = True) (hk : K y (st.set pid (.cells (psL T p)))) (hx : norm x = y) : FinM st K x st := by
  have := fin_z (ex := []) hp hi hk hx
  rwa [List.append_nil] at this
theorem fin_m {T : List Tk} {pid : Nat} {p' : PS} {st : St} {K : SV → St → Prop} {x y : SV} {ex : St} (hi : ∀ n, Ids n y = True) (hk : K y (st.set pid (.cells (psL T p')))) (hx : norm x = y) : FinM st K x (st.set pid (.cells (psL T p')) ++ ex) := by
  subst hx; exact ⟨_, ex, rfl, (Mod.refl _).set _ _ (objs_ps _ _ _), by rw [hi]; trivial, hk⟩
theorem fin_m1 {T : List Tk} {pid : Nat} {p' : PS} {st : St} {K : SV → St → Prop} {x y : SV} (hi : ∀ n, Ids n y = True) (hk : K y (st.set pid (.cells (psL T p')))) (hx : norm x = y) : FinM st K x (st.set pid (.cells (psL T p'))) := by
  subst hx; exact ⟨_, [], (List.append_nil _).symm, (Mod.refl _).set _ _ (objs_ps _ _ _), by rw [hi]; trivial, hk⟩
theorem fin_pure {st : St} {K : SV → St → Prop} {x : SV} {ex : St} (hi : Ids st.length (norm x) = True) (hk : K (norm x) st) : FinK st K x (st ++ ex) := ⟨⟨ex, rfl⟩, by rw [hi]; trivial, hk⟩
attribute [go_sem] tkSV tl_ba tl_mk norm_nd norm1_nd shape_nd elem_nd strip_nd gIf_nd nd_len all_nd cellsOf_nd
end Go.AL
namespace Go.Proofs
open Go Go.AL
@[go_sem] theorem Tryd.aft39_0 : aFieldT Tryd.prog 39 0 = some (0, 3) := by kernel_rfl
@[go_sem] theorem Tryd.aft39_1 : aFieldT Tryd.prog 39 1 = some (1, 9) := by kernel_rfl
@[go_sem] theorem Tryd.aft39_3 : aFieldT Tryd.prog 39 3 = some (3, 3) := by kernel_rfl
set_option maxHeartbeats 4000000 in
theorem look_c {T : List Tk} {pid : Nat} {p : PS} {t : Tk} (h : lookF T p = some t) {K : SV → St → Prop} {st : St} (hp : PAt T pid p st) (hk : K (tkSV t) st) : ACalls Tryd.prog 23 [.ptr pid 0] K st := by
  refine acalls_go_pure [] Tryd.func23 rfl Tryd.results23 Tryd.ntmps23 ?_
  have y := cells_facts hp
  unfold psL at y
  by_cases he : p.e = 0
  · have c1 : (p.e != 0) = false := by simp [he]
    unfold lookF at h
    rw [if_pos he] at h
    obtain ⟨hlt, hget⟩ := List.getElem?_eq_some_iff.1 h
    have hgt : (T.map tkSV).getD p.pos .any = tkSV t := by simp [List.getD_eq_getElem?_getD, h]
    simp only [go_sem, reduceCtorEq, Nat.reduceAdd, Nat.reduceMul, Nat.reduceLeDiff, Nat.reduceLT, Int.reduceLE, Int.reduceLT, Int.reduceEq, Nat.reduceBEq, Nat.reduceEqDiff, y.1, y.2.1, y.2.2, c1]
    refine awp_drawW [] [(0, []), (0, []), (0, []), (0, []), (0, []), (0, []), (0, []), (0, []), (0, []), (0, []), (1, [11])] Tryd.mixed rfl ?_
    simp only [go_sem, reduceCtorEq, Nat.reduceAdd, Nat.reduceMul, Nat.reduceLeDiff, Nat.reduceLT, Int.reduceLE, Int.reduceLT, Int.reduceEq, Nat.reduceBEq, Nat.reduceEqDiff, drawW_n, drawW_0, drawW_1, drawW_2, drawW_3, pend_n, pend_c, headD_c, isStore_s, y.1, y.2.1, y.2.2, hgt]
    refine ⟨by omega, fin_pure (ids_tk _ t) hk⟩
  · have c1 : (p.e != 0) = true := by simp [he]
    unfold lookF at h
    rw [if_neg he] at h
    cases h
    simp only [go_sem, reduceCtorEq, Nat.reduceAdd, Nat.reduceMul, Nat.reduceLeDiff, Nat.reduceLT, Int.reduceLE, Int.reduceLT, Int.reduceEq, Nat.reduceBEq, Nat.reduceEqDiff, y.1, y.2.1, y.2.2, c1]
    exact fin_pure (ids_tk _ tk0) hk
set_option maxHeartbeats 4000000 in
theorem is_c {T : List Tk} {pid : Nat} {p : PS} {t : Tk} {s : Tx} (h : lookF T p = some t) {K : SV → St → Prop} {st : St} (hp : PAt T pid p st) (hk : K (.sc (.bool (isT t s))) st) : ACalls Tryd.prog 24 [.ptr pid 0, .sc (.string (ba s))] K st := by
  refine acalls_go_pure [] Tryd.func24 rfl Tryd.results24 Tryd.ntmps24 ?_
  simp only [go_sem, reduceCtorEq, Nat.reduceAdd, Nat.reduceMul, Nat.reduceLeDiff, Nat.reduceLT, Int.reduceLE, Int.reduceLT, Int.reduceEq, Nat.reduceBEq, Nat.reduceEqDiff]
  refine look_c h hp ?_
  simp only [go_sem, reduceCtorEq, Nat.reduceAdd, Nat.reduceMul, Nat.reduceLeDiff, Nat.reduceLT, Int.reduceLE, Int.reduceLT, Int.reduceEq, Nat.reduceBEq, Nat.reduceEqDiff, tl_ba]
  exact ⟨fun h => by simp [h], fin_pure (eq_true (.sc _)) hk⟩
set_option maxHeartbeats 4000000 in
theorem fail_c {T : List Tk} {pid : Nat} {p p' : PS} {e : Int} (h : failF T e p = some p') {K : SV → St → Prop} {st : St} (hp : PAt T pid p st) (hk : ∀ x, K x (st.set pid (.cells (psL T p')))) : ACalls Tryd.prog 30 [.ptr pid 0, .sc (.int .i64 e)] K st := by
  refine acalls_go_mod [] Tryd.func30 rfl Tryd.results30 Tryd.ntmps30 ?_
  have y := cells_facts hp
  unfold psL at y
  unfold failF at h
  by_cases he : p.e = 0
  · have c1 : (p.e == 0) = true := by simp [he]
    rw [if_pos he] at h
    cases ht : T[p.pos]? with
    | none => rw [ht] at h; cases h
    | some t =>
      rw [ht] at h
      cases h
      simp only [go_sem, reduceCtorEq, Nat.reduceAdd, Nat.reduceMul, Nat.reduceLeDiff, Nat.reduceLT, Int.reduceLE, Int.reduceLT, Int.reduceEq, Nat.reduceBEq, Nat.reduceEqDiff, y.1, y.2.1, y.2.2, c1]
      refine look_c (t := t) (by unfold lookF; rw [if_pos he, ht]) hp ?_
      simp only [go_sem, reduceCtorEq, Nat.reduceAdd, Nat.reduceMul, Nat.reduceLeDiff, Nat.reduceLT, Int.reduceLE, Int.reduceLT, Int.reduceEq, Nat.reduceBEq, Nat.reduceEqDiff, y.1, y.2.1, y.2.2, c1]
      exact fin_m1 ids_none (hk _) rfl
  · have c1 : (p.e == 0) = false := by simp [he]
    rw [if_neg he] at h
    cases h
    simp only [go_sem, reduceCtorEq, Nat.reduceAdd, Nat.reduceMul, Nat.reduceLeDiff, Nat.reduceLT, Int.reduceLE, Int.reduceLT, Int.reduceEq, Nat.reduceBEq, Nat.reduceEqDiff, y.1, y.2.1, y.2.2, c1]
    exact fin_z1 hp ids_none (hk _) rfl
theorem take_pos {T : List Tk} {p : PS} {t : Tk} (hT : T.length ≤ 100000) (h : lookF T p = some t) (he : p.e = 0) : IntKind.i64.wrap ((p.pos : Int) + 1) = ((p.pos + 1 : Nat) : Int) := by
  unfold lookF at h
  rw [if_pos he] at h
  obtain ⟨hlt, _⟩ := List.getElem?_eq_some_iff.1 h
  rw [IntWalk.i64_in _ (by omega)]; rfl
set_option maxHeartbeats 4000000 in
theorem take_c {T : List Tk} (hT : T.length ≤ 100000) {pid : Nat} {p p' : PS} {t : Tk} (h : takeF T p = some (t, p')) {K : SV → St → Prop} {st : St} (hp : PAt T pid p st) (hk : K (tkSV t) (st.set pid (.cells (psL T p')))) : ACalls Tryd.prog 48 [.ptr pid 0] K st := by
  refine acalls_go_mod [] Tryd.func48 rfl Tryd.results48 Tryd.ntmps48 ?_
  have y := cells_facts hp
  unfold psL at y
  unfold takeF at h
  cases hl : lookF T p with
  | none => rw [hl] at h; cases h
  | some t0 =>
    rw [hl] at h
    simp only [Option.map_some, Option.some.injEq, Prod.mk.injEq] at h
    obtain ⟨rfl, rfl⟩ := h
    simp only [go_sem, reduceCtorEq, Nat.reduceAdd, Nat.reduceMul, Nat.reduceLeDiff, Nat.reduceLT, Int.reduceLE, Int.reduceLT, Int.reduceEq, Nat.reduceBEq, Nat.reduceEqDiff]
    refine look_c hl (psat_app hp) ?_
    have hw := fun he => take_pos hT hl he
    by_cases he : p.e = 0
    · have c1 : (p.e == 0) = true := by simp [he]
      by_cases hk0 : t0.kind = 0
      · have c2 : (t0.kind != 0) = false := by simp [hk0]
        rw [if_neg (by simp [hk0])] at hk
        simp only [go_sem, reduceCtorEq, Nat.reduceAdd, Nat.reduceMul, Nat.reduceLeDiff, Nat.reduceLT, Int.reduceLE, Int.reduceLT, Int.reduceEq, Nat.reduceBEq, Nat.reduceEqDiff, y.1, y.2.1, y.2.2, c1, c2]
        exact fin_z hp (fun n => ids_tk _ t0) hk rfl
      · have c2 : (t0.kind != 0) = true := by simp [hk0]
        rw [if_pos ⟨he, hk0⟩] at hk
        simp only [go_sem, reduceCtorEq, Nat.reduceAdd, Nat.reduceMul, Nat.reduceLeDiff, Nat.reduceLT, Int.reduceLE, Int.reduceLT, Int.reduceEq, Nat.reduceBEq, Nat.reduceEqDiff, y.1, y.2.1, y.2.2, c1, c2, hw he]
        exact fin_m (fun n => ids_tk _ t0) hk rfl
    · have c1 : (p.e == 0) = false := by simp [he]
      rw [if_neg (by simp [he])] at hk
      simp only [go_sem, reduceCtorEq, Nat.reduceAdd, Nat.reduceMul, Nat.reduceLeDiff, Nat.reduceLT, Int.reduceLE, Int.reduceLT, Int.reduceEq, Nat.reduceBEq, Nat.reduceEqDiff, y.1, y.2.1, y.2.2, c1]
      exact fin_z hp (fun n => ids_tk _ t0) hk rfl
set_option maxHeartbeats 4000000 in
theorem may_c {T : List Tk} (hT : T.length ≤ 100000) {pid : Nat} {p p' : PS} {s : Tx} {b : Bool} (h : mayF T s p = some (b, p')) {K : SV → St → Prop} {st : St} (hp : PAt T pid p st) (hk : K (.sc (.bool b)) (st.set pid (.cells (psL T p')))) : ACalls Tryd.prog 50 [.ptr pid 0, .sc (.string (ba s))] K st := by
  refine acalls_go_mod [] Tryd.func50 rfl Tryd.results50 Tryd.ntmps50 ?_
  have y := cells_facts hp
  unfold psL at y
  unfold mayF isF at h
  cases hl : lookF T p with
  | none => rw [hl] at h; cases h
  | some t0 =>
    rw [hl] at h
    simp only [Option.map_some, Option.bind_some] at h
    simp only [go_sem, reduceCtorEq, Nat.reduceAdd, Nat.reduceMul, Nat.reduceLeDiff, Nat.reduceLT, Int.reduceLE, Int.reduceLT, Int.reduceEq, Nat.reduceBEq, Nat.reduceEqDiff]
    refine is_c hl hp ?_
    cases hb : isT t0 s with
    | false =>
      rw [hb] at h
      simp only [Bool.false_eq_true, if_false, Option.some.injEq, Prod.mk.injEq] at h
      obtain ⟨rfl, rfl⟩ := h
      simp only [go_sem, reduceCtorEq, Nat.reduceAdd, Nat.reduceMul, Nat.reduceLeDiff, Nat.reduceLT, Int.reduceLE, Int.reduceLT, Int.reduceEq, Nat.reduceBEq, Nat.reduceEqDiff]
      exact fin_z1 hp (ids_scv _) hk rfl
    | true =>
      rw [hb] at h
      simp only [if_true] at h
      cases ht : takeF T p with
      | none => rw [ht] at h; cases h
      | some r =>
        rw [ht] at h
        simp only [Option.map_some, Option.some.injEq, Prod.mk.injEq] at h
        obtain ⟨rfl, rfl⟩ := h
        simp only [go_sem, reduceCtorEq, Nat.reduceAdd, Nat.reduceMul, Nat.reduceLeDiff, Nat.reduceLT, Int.reduceLE, Int.reduceLT, Int.reduceEq, Nat.reduceBEq, Nat.reduceEqDiff]
        refine take_c hT ht hp ?_
        simp only [go_sem, reduceCtorEq, Nat.reduceAdd, Nat.reduceMul, Nat.reduceLeDiff, Nat.reduceLT, Int.reduceLE, Int.reduceLT, Int.reduceEq, Nat.reduceBEq, Nat.reduceEqDiff]
        exact fin_m1 (ids_scv _) hk rfl
set_option maxHeartbeats 4000000 in
theorem must_c {T : List Tk} (hT : T.length ≤ 100000) {pid : Nat} {p p' : PS} {s : Tx} (h : mustF T s p = some p') {K : SV → St → Prop} {st : St} (hp : PAt T pid p st) (hk : ∀ x, K x (st.set pid (.cells (psL T p')))) : ACalls Tryd.prog 27 [.ptr pid 0, .sc (.string (ba s))] K st := by
  refine acalls_go_mod [] Tryd.func27 rfl Tryd.results27 Tryd.ntmps27 ?_
  unfold mustF at h
  cases hm : mayF T s p with
  | none => rw [hm] at h; cases h
  | some r =>
    rw [hm] at h
    obtain ⟨b, p1⟩ := r
    simp only [Option.bind_some] at h
    simp only [go_sem, reduceCtorEq, Nat.reduceAdd, Nat.reduceMul, Nat.reduceLeDiff, Nat.reduceLT, Int.reduceLE, Int.reduceLT, Int.reduceEq, Nat.reduceBEq, Nat.reduceEqDiff]
    refine may_c hT hm hp ?_
    cases b with
    | true =>
      simp only [if_true, Option.some.injEq] at h
      subst h
      simp only [go_sem, reduceCtorEq, Nat.reduceAdd, Nat.reduceMul, Nat.reduceLeDiff, Nat.reduceLT, Int.reduceLE, Int.reduceLT, Int.reduceEq, Nat.reduceBEq, Nat.reduceEqDiff]
      exact fin_m1 ids_none (hk _) rfl
    | false =>
      simp only [Bool.false_eq_true, if_false] at h
      simp only [go_sem, reduceCtorEq, Nat.reduceAdd, Nat.reduceMul, Nat.reduceLeDiff, Nat.reduceLT, Int.reduceLE, Int.reduceLT, Int.reduceEq, Nat.reduceBEq, Nat.reduceEqDiff]
      refine fail_c h (psat_set hp) fun x => ?_
      simp only [go_sem, reduceCtorEq, Nat.reduceAdd, Nat.reduceMul, Nat.reduceLeDiff, Nat.reduceLT, Int.reduceLE, Int.reduceLT, Int.reduceEq, Nat.reduceBEq, Nat.reduceEqDiff]
      exact fin_m1 ids_none (hk _) rfl
set_option maxHeartbeats 4000000 in
theorem word_c {T : List Tk} (hT : T.length ≤ 100000) {pid : Nat} {p p' : PS} {k : Int} {t : Tk} (h : wordF T k p = some (t, p')) {K : SV → St → Prop} {st : St} (hp : PAt T pid p st) (hk : K (tkSV t) (st.set pid (.cells (psL T p')))) : ACalls Tryd.prog 63 [.ptr pid 0, .sc (.int .i64 k)] K st := by
  refine acalls_go_mod [] Tryd.func63 rfl Tryd.results63 Tryd.ntmps63 ?_
  unfold wordF at h
  cases hl : lookF T p with
  | none => rw [hl] at h; cases h
  | some t0 =>
    rw [hl] at h
    simp only [Option.bind_some] at h
    simp only [go_sem, reduceCtorEq, Nat.reduceAdd, Nat.reduceMul, Nat.reduceLeDiff, Nat.reduceLT, Int.reduceLE, Int.reduceLT, Int.reduceEq, Nat.reduceBEq, Nat.reduceEqDiff]
    refine look_c hl (psat_app hp) ?_
    by_cases hk0 : t0.kind = k
    · have c1 : (t0.kind != k) = false := by simp [hk0]
      rw [if_neg (by simp [hk0])] at h
      simp only [Option.bind_some] at h
      simp only [go_sem, reduceCtorEq, Nat.reduceAdd, Nat.reduceMul, Nat.reduceLeDiff, Nat.reduceLT, Int.reduceLE, Int.reduceLT, Int.reduceEq, Nat.reduceBEq, Nat.reduceEqDiff, c1]
      refine take_c hT h (psat_app hp) ?_
      simp only [go_sem, reduceCtorEq, Nat.reduceAdd, Nat.reduceMul, Nat.reduceLeDiff, Nat.reduceLT, Int.reduceLE, Int.reduceLT, Int.reduceEq, Nat.reduceBEq, Nat.reduceEqDiff, inS_get hp]
      exact fin_m (fun n => ids_tk _ t) hk rfl
    · have c1 : (t0.kind != k) = true := by simp [hk0]
      rw [if_pos hk0] at h
      cases hf : failF T 14 p with
      | none => rw [hf] at h; cases h
      | some p1 =>
        rw [hf] at h
        simp only [Option.bind_some] at h
        simp only [go_sem, reduceCtorEq, Nat.reduceAdd, Nat.reduceMul, Nat.reduceLeDiff, Nat.reduceLT, Int.reduceLE, Int.reduceLT, Int.reduceEq, Nat.reduceBEq, Nat.reduceEqDiff, c1]
        refine fail_c hf (psat_app hp) fun x => ?_
        simp only [go_sem, reduceCtorEq, Nat.reduceAdd, Nat.reduceMul, Nat.reduceLeDiff, Nat.reduceLT, Int.reduceLE, Int.reduceLT, Int.reduceEq, Nat.reduceBEq, Nat.reduceEqDiff, inS_get hp]
        refine take_c hT h (psat_seta hp) ?_
        simp only [go_sem, reduceCtorEq, Nat.reduceAdd, Nat.reduceMul, Nat.reduceLeDiff, Nat.reduceLT, Int.reduceLE, Int.reduceLT, Int.reduceEq, Nat.reduceBEq, Nat.reduceEqDiff, inS_get hp]
        exact fin_m (fun n => ids_tk _ t) hk rfl
set_option maxHeartbeats 4000000 in
theorem most_c {T : List Tk} {pid : Nat} {p p' : PS} {n m : Int} (h : mostF T n m p = some p') {K : SV → St → Prop} {st : St} (hp : PAt T pid p st) (hk : ∀ x, K x (st.set pid (.cells (psL T p')))) : ACalls Tryd.prog 25 [.ptr pid 0, .sc (.int .i64 n), .sc (.int .i64 m)] K st := by
  refine acalls_go_mod [] Tryd.func25 rfl Tryd.results25 Tryd.ntmps25 ?_
  unfold mostF at h
  by_cases hc : m ≤ n
  · have c1 : decide (m ≤ n) = true := by simp [hc]
    rw [if_pos hc] at h
    simp only [go_sem, reduceCtorEq, Nat.reduceAdd, Nat.reduceMul, Nat.reduceLeDiff, Nat.reduceLT, Int.reduceLE, Int.reduceLT, Int.reduceEq, Nat.reduceBEq, Nat.reduceEqDiff, ge_iff_le, c1]
    refine fail_c h hp fun x => ?_
    simp only [go_sem, reduceCtorEq, Nat.reduceAdd, Nat.reduceMul, Nat.reduceLeDiff, Nat.reduceLT, Int.reduceLE, Int.reduceLT, Int.reduceEq, Nat.reduceBEq, Nat.reduceEqDiff]
    exact fin_m1 ids_none (hk _) rfl
  · have c1 : decide (m ≤ n) = false := by simp [hc]
    rw [if_neg hc] at h
    cases h
    simp only [go_sem, reduceCtorEq, Nat.reduceAdd, Nat.reduceMul, Nat.reduceLeDiff, Nat.reduceLT, Int.reduceLE, Int.reduceLT, Int.reduceEq, Nat.reduceBEq, Nat.reduceEqDiff, ge_iff_le, c1]
    exact fin_z1 hp ids_none (hk _) rfl
end Go.Proofs
