/- Types: tyapp. -/
import Derived.Test.YtnjiphlokjfdlaaDoorW2
set_option linter.unusedSimpArgs false
set_option linter.unusedVariables false
set_option maxRecDepth 8000
namespace Go.AL
theorem ak_kind (n c : Nd) : (n.addKid c).kind = n.kind := by cases n; rfl
theorem ak_text (n c : Nd) : (n.addKid c).text = n.text := by cases n; rfl
theorem ak_num (n c : Nd) : (n.addKid c).num = n.num := by cases n; rfl
theorem ak_pos (n c : Nd) : (n.addKid c).pos = n.pos := by cases n; rfl
theorem ak_names (n c : Nd) : (n.addKid c).names = n.names := by cases n; rfl
theorem ak_kids (n c : Nd) : (n.addKid c).kids = n.kids ++ [c] := by cases n; rfl
/-- A node in memory whose kids may be appended to. -/
def ndOwn (kid ver : Nat) (n : Nd) : List SV := [.sc (.int .i64 n.kind), .sc (.string (ba n.text)), .sc (.int .i64 n.num), .sc (.int .i64 n.pos), .slice .full 0 [], .slice (.own kid ver) 6 (n.kids.map ndSV)]
def zNd : List SV := [.sc (.int .i64 0), .sc (.string ⟨#[]⟩), .sc (.int .i64 0), .sc (.int .i64 0), .slice .full 0 [], .slice .full 0 []]
theorem fin_own {T : List Tk} {pid kid ver : Nat} {p' : PS} {nd : Nd} {st : St} {K : SV → St → Prop} (hk : K (ndSV nd) (st.set pid (.cells (psL T p')))) (hnm : nd.names = []) {ex : St} :
    FinM st (LeK K) (.agg (ndOwn kid ver nd)) (st.set pid (.cells (psL T p')) ++ ex) := by
  have := fin_nd (m1 := .full) (m2 := .own kid ver) (z1 := 0) (z2 := 6) hk (.inr hnm) (.inl rfl) (ex := ex)
  unfold ndRaw at this
  rw [hnm] at this
  exact this
theorem get_sx {st ex : St} {pid : Nat} {X : Ob} (k : Nat) : (st.set pid X ++ ex)[st.length + k]? = ex[k]? := by
  rw [List.getElem?_append_right (by simp)]; simp
theorem set_sx {st ex : St} {pid : Nat} {X Y : Ob} (k : Nat) : (st.set pid X ++ ex).set (st.length + k) Y = st.set pid X ++ ex.set k Y := by
  rw [List.set_append_right _ _ (by simp)]; simp
theorem len_sx {st : St} {pid : Nat} {X : Ob} : (st.set pid X).length = st.length := by simp
end Go.AL
namespace Go.Proofs
open Go Go.AL
theorem Tryd.app6 {n : Nat} (h : n ≤ 1000000) : AppOk Tryd.prog 25 25 6 n := appOk_of Tryd.aelem25 Tryd.aelem25 Tryd.asize27 Tryd.azero27 rfl Tryd.abytes27 (by omega) h
set_option maxHeartbeats 4000000 in
theorem ty_c {T : List Tk} (hT : T.length ≤ 100000) {pid : Nat} {e : PM Nd} (he : HC T pid 80 e) : HC T pid 80 (tyS T e) := by
  intro p r p' h K st hp hk
  refine acalls_leK (acalls_go_mod [] Tryd.func80 rfl Tryd.results80 Tryd.ntmps80 ?_)
  unfold tyS at h
  simp only [Option.bind_eq_some_iff, Prod.exists] at h
  obtain ⟨t0, p1, h1, h⟩ := h
  simp only [go_sem, reduceCtorEq, Nat.reduceAdd, Nat.reduceMul, Nat.reduceLeDiff, Nat.reduceLT, Int.reduceLE, Int.reduceLT, Int.reduceEq, Nat.reduceBEq, Nat.reduceEqDiff]
  refine word_c hT h1 (psat_app hp) ?_
  simp only [go_sem, reduceCtorEq, Nat.reduceAdd, Nat.reduceMul, Nat.reduceLeDiff, Nat.reduceLT, Int.reduceLE, Int.reduceLT, Int.reduceEq, Nat.reduceBEq, Nat.reduceEqDiff, inS_get hp]
  refine node_c rfl rfl rfl rfl (fun _ => rfl) (ids_slice (.inr rfl) (fun x hx => by cases hx)) ?_
  unfold ndFull
  simp only [go_sem, reduceCtorEq, Nat.reduceAdd, Nat.reduceMul, Nat.reduceLeDiff, Nat.reduceLT, Int.reduceLE, Int.reduceLT, Int.reduceEq, Nat.reduceBEq, Nat.reduceEqDiff, inS_get hp]
  refine awp_ownC (st.length + 2) 5 6 0 (get_sx 2) (by simp) rfl ?_
  rw [set_sx]
  simp only [List.length_append, len_sx, List.length_cons, List.length_nil, List.set_cons_succ, List.set_cons_zero, List.append_assoc, List.cons_append, List.nil_append, Nat.zero_add, Nat.reduceAdd]
  refine awp_rounds [] (fun m env s => ∃ (nd : Nd) (q : PS) (k : Nat) (b : Ob) (ex : St), tyL T e m nd q = some (r, p') ∧ m + nd.kids.length ≤ T.length + 2 ∧ nd.names = [] ∧ env = [.ptr pid 0, .any, .ptr st.length 0, .any, .ptr (st.length + 2) 0, .any, .any, .any, .any, .any, .any, .any, .any, .any, .any, .any, .any, .any, .any, .any, .any, .any, .any, .any, .any, .any, .any, .any, .any, .any, .any, .any, .any, .any, .any, .any, .any, .any, .any, .any, .any, .any] ∧
    s = st.set pid (.cells (psL T q)) ++ (.cells zNd :: b :: .cells (ndOwn (st.length + 3) k nd) :: .tok k :: ex)) (n := T.length + 2) ?_ ⟨_, _, 0, _, [], h, by simp [nodeF, Nd.kids], rfl, rfl, rfl⟩ ?_
  · repeat (first | exact leEnv_nil | refine leEnv_any _ ?_ | refine leEnv_same _ ?_ | refine leEnv_norm _ ?_)
  rintro m env s ⟨nd, q, k, b, ex, hl, hm, hnm, rfl, rfl⟩
  cases m with
  | zero => cases hl
  | succ m =>
  simp only [tyL, Option.bind_eq_some_iff] at hl
  obtain ⟨t, h2, hl⟩ := hl
  simp only [go_sem, reduceCtorEq, Nat.reduceAdd, Nat.reduceMul, Nat.reduceLeDiff, Nat.reduceLT, Int.reduceLE, Int.reduceLT, Int.reduceEq, Nat.reduceBEq, Nat.reduceEqDiff]
  refine look_c h2 (psat_seta hp) ?_
  have hle : k + 1 ≤ k + 1 := Nat.le_refl _
  by_cases h3 : t.kind = 3
  · have c1 : (t.kind == 3) = true := by simp [h3]
    rw [if_pos h3, Option.bind_eq_some_iff] at hl
    obtain ⟨⟨t1, q1⟩, h4, hl⟩ := hl
    simp only [go_sem, reduceCtorEq, Nat.reduceAdd, Nat.reduceMul, Nat.reduceLeDiff, Nat.reduceLT, Int.reduceLE, Int.reduceLT, Int.reduceEq, Nat.reduceBEq, Nat.reduceEqDiff, c1]
    refine take_c hT h4 (psat_seta hp) ?_
    simp only [go_sem, reduceCtorEq, Nat.reduceAdd, Nat.reduceMul, Nat.reduceLeDiff, Nat.reduceLT, Int.reduceLE, Int.reduceLT, Int.reduceEq, Nat.reduceBEq, Nat.reduceEqDiff, inS_get hp]
    refine awp_drawW [] [(0, [8]), (0, [8]), (0, []), (0, []), (0, []), (0, []), (3, [8]), (0, []), (3, [10]), (0, []), (1, [11])] Tryd.mixed rfl ?_
    simp only [go_sem, reduceCtorEq, Nat.reduceAdd, Nat.reduceMul, Nat.reduceLeDiff, Nat.reduceLT, Int.reduceLE, Int.reduceLT, Int.reduceEq, Nat.reduceBEq, Nat.reduceEqDiff, drawW_n, drawW_0, drawW_1, drawW_2, drawW_3, pend_n, pend_c, headD_c, isStore_s, ndOwn, zNd]
    refine ⟨_, _, nodeN_c (kids := []) (.inr rfl) ⟨rfl, rfl⟩, ?_⟩
    simp only [go_sem, reduceCtorEq, Nat.reduceAdd, Nat.reduceMul, Nat.reduceLeDiff, Nat.reduceLT, Int.reduceLE, Int.reduceLT, Int.reduceEq, Nat.reduceBEq, Nat.reduceEqDiff, drawW_n, drawW_0, drawW_1, drawW_2, drawW_3, pend_n, pend_c, headD_c, isStore_s]
    rw [dk_eff]
    refine ⟨.slice .full 6 [ndSV (nodeF 27 t.pos t.text [])], ?_, ?_⟩
    · simp only [go_sem, reduceCtorEq, Nat.reduceAdd, Nat.reduceMul, Nat.reduceLeDiff, Nat.reduceLT, Int.reduceLE, Int.reduceLT, Int.reduceEq, Nat.reduceBEq, Nat.reduceEqDiff]
      exact ⟨⟨[], by simp⟩, ids_nds _ _ (.inr rfl) _ [_], .inl rfl⟩
    simp only [go_sem, reduceCtorEq, Nat.reduceAdd, Nat.reduceMul, Nat.reduceLeDiff, Nat.reduceLT, Int.reduceLE, Int.reduceLT, Int.reduceEq, Nat.reduceBEq, Nat.reduceEqDiff, drawW_n, drawW_0, drawW_1, drawW_2, drawW_3, pend_n, pend_c, headD_c, isStore_s]
    refine ⟨_, _, ⟨Tryd.app6 (by omega), rfl, rfl⟩, ?_⟩
    simp only [go_sem, reduceCtorEq, Nat.reduceAdd, Nat.reduceMul, Nat.reduceLeDiff, Nat.reduceLT, Int.reduceLE, Int.reduceLT, Int.reduceEq, Nat.reduceBEq, Nat.reduceEqDiff]
    refine ⟨m, _, by omega, ?_, nd.addKid (nodeF 27 t.pos t.text []), q1, k + 1, b, _, hl, by rw [ak_kids]; simp; omega, by rw [ak_names]; exact hnm, rfl, by rw [ak_kind, ak_text, ak_num, ak_pos, ak_kids, List.map_append]; rfl⟩
    repeat (first | exact leEnv_nil | refine leEnv_any _ ?_ | refine leEnv_same _ ?_ | refine leEnv_norm _ ?_)
  · have c1 : (t.kind == 3) = false := by simp [h3]
    rw [if_neg h3] at hl
    unfold isF at hl
    rw [h2] at hl
    simp only [Option.map_some, Option.bind_some] at hl
    simp only [go_sem, reduceCtorEq, Nat.reduceAdd, Nat.reduceMul, Nat.reduceLeDiff, Nat.reduceLT, Int.reduceLE, Int.reduceLT, Int.reduceEq, Nat.reduceBEq, Nat.reduceEqDiff, c1]
    refine is_c h2 (psat_seta hp) ?_
    cases hb : isT t [40] with
    | true =>
      rw [hb] at hl
      simp only [if_true, Option.bind_eq_some_iff, Prod.exists] at hl
      obtain ⟨x, q1, h4, hl⟩ := hl
      simp only [go_sem, reduceCtorEq, Nat.reduceAdd, Nat.reduceMul, Nat.reduceLeDiff, Nat.reduceLT, Int.reduceLE, Int.reduceLT, Int.reduceEq, Nat.reduceBEq, Nat.reduceEqDiff]
      refine awp_drawW [] [(0, [5]), (0, [5]), (0, []), (3, [5]), (0, []), (3, [7]), (0, []), (1, [8])] Tryd.mixed rfl ?_
      simp only [go_sem, reduceCtorEq, Nat.reduceAdd, Nat.reduceMul, Nat.reduceLeDiff, Nat.reduceLT, Int.reduceLE, Int.reduceLT, Int.reduceEq, Nat.reduceBEq, Nat.reduceEqDiff, drawW_n, drawW_0, drawW_1, drawW_2, drawW_3, pend_n, pend_c, headD_c, isStore_s, ndOwn, zNd]
      refine ⟨_, _, round_c hT he rfl h4 (psat_seta hp) ⟨rfl, rfl⟩, ?_⟩
      simp only [go_sem, reduceCtorEq, Nat.reduceAdd, Nat.reduceMul, Nat.reduceLeDiff, Nat.reduceLT, Int.reduceLE, Int.reduceLT, Int.reduceEq, Nat.reduceBEq, Nat.reduceEqDiff, drawW_n, drawW_0, drawW_1, drawW_2, drawW_3, pend_n, pend_c, headD_c, isStore_s, inS_get hp]
      rw [dk_eff]
      refine ⟨.slice .full 6 [ndSV x], ?_, ?_⟩
      · simp only [go_sem, reduceCtorEq, Nat.reduceAdd, Nat.reduceMul, Nat.reduceLeDiff, Nat.reduceLT, Int.reduceLE, Int.reduceLT, Int.reduceEq, Nat.reduceBEq, Nat.reduceEqDiff]
        exact ⟨⟨[], by simp⟩, ids_nds _ _ (.inr rfl) _ [_], .inl rfl⟩
      simp only [go_sem, reduceCtorEq, Nat.reduceAdd, Nat.reduceMul, Nat.reduceLeDiff, Nat.reduceLT, Int.reduceLE, Int.reduceLT, Int.reduceEq, Nat.reduceBEq, Nat.reduceEqDiff, drawW_n, drawW_0, drawW_1, drawW_2, drawW_3, pend_n, pend_c, headD_c, isStore_s]
      refine ⟨_, _, ⟨Tryd.app6 (by omega), rfl, rfl⟩, ?_⟩
      simp only [go_sem, reduceCtorEq, Nat.reduceAdd, Nat.reduceMul, Nat.reduceLeDiff, Nat.reduceLT, Int.reduceLE, Int.reduceLT, Int.reduceEq, Nat.reduceBEq, Nat.reduceEqDiff]
      refine ⟨m, _, by omega, ?_, nd.addKid x, q1, k + 1, b, _, hl, by rw [ak_kids]; simp; omega, by rw [ak_names]; exact hnm, rfl, by rw [ak_kind, ak_text, ak_num, ak_pos, ak_kids, List.map_append]; rfl⟩
      repeat (first | exact leEnv_nil | refine leEnv_any _ ?_ | refine leEnv_same _ ?_ | refine leEnv_norm _ ?_)
    | false =>
      rw [hb] at hl
      simp only [Bool.false_eq_true, if_false, Option.some.injEq, Prod.mk.injEq] at hl
      obtain ⟨rfl, rfl⟩ := hl
      simp only [go_sem, reduceCtorEq, Nat.reduceAdd, Nat.reduceMul, Nat.reduceLeDiff, Nat.reduceLT, Int.reduceLE, Int.reduceLT, Int.reduceEq, Nat.reduceBEq, Nat.reduceEqDiff, ndOwn, zNd]
      exact fin_own hk hnm
end Go.Proofs
