import Derived.Test.YtnjiphlokjfdlaaGreatDoorW10
set_option maxHeartbeats 4000000
set_option linter.unusedSimpArgs false
set_option linter.unusedVariables false
set_option maxRecDepth 8000
namespace Go.Proofs
open Go Go.AL
theorem atomE_c {T : List Tk} (hT : T.length ≤ 100000) {pid : Nat} {p p' : PS} {r : Nd} {t : Tk} (ht : lookF T p = some t) (b1 : isT t [109,97,116,99,104] = false) (b2 : isT t [116,114,121] = false) (b3 : isT t [114,101,116,114,121] = false) (b4 : isT t [40] = false)
    (h : leafF T [(1,1),(2,2),(3,4),(4,5)] p = some (r,p')) {K : SV → St → Prop} {st : St} (hp : PAt T pid p st)
    (hk : K (ndE r) (st.set pid (.cells (psL T p')))) : ACalls Tryz.prog 109 [.ptr pid 0] K st := by
  refine acalls_go_mod0 [] Tryz.func109 rfl Tryz.results109 Tryz.ntmps109 ?_
  have hr := leaf_names h
  simp only [go_sem]
  refine look_c ht (psat_app hp) ?_
  simp only [go_sem]
  refine is_c ht (psat_app hp) ?_
  simp only [go_sem,b1]
  first | (unfold ACallsH; simp only [put_some,put_none',ev_tmp,List.set_cons_succ,List.set_cons_zero,List.getD_cons_succ,List.getD_cons_zero]) | skip
  refine is_c ht (psat_app hp) ?_
  simp only [go_sem,b2]
  first | (unfold ACallsH; simp only [put_some,put_none',ev_tmp,List.set_cons_succ,List.set_cons_zero,List.getD_cons_succ,List.getD_cons_zero]) | skip
  refine is_c ht (psat_app hp) ?_
  simp only [go_sem,b3]
  first | (unfold ACallsH; simp only [put_some,put_none',ev_tmp,List.set_cons_succ,List.set_cons_zero,List.getD_cons_succ,List.getD_cons_zero]) | skip
  refine is_c ht (psat_app hp) ?_
  simp only [go_sem,b4]
  refine puts4 (by simp) ?_
  refine leaf_c hT h (psat_app hp) (by simp; rfl) ?_
  rw [ndE_eq hr] at hk ⊢
  simp only [go_sem,inS_get hp]
  cases r
  exact fin_ndE hk
theorem atom_c {T : List Tk} (hT : T.length ≤ 100000) {pid : Nat} {e pt : PM Nd} (he : HC T pid 45 e) (hpt : HC T pid 127 pt) : HC T pid 109 (atomF T e pt) := by
  intro p r p' h K st hp hk
  unfold atomF at h
  rw [Option.bind_eq_some_iff] at h
  obtain ⟨t,ht,h⟩ := h
  cases b1 : isT t [109,97,116,99,104] with
  | true =>
    rw [b1,if_pos rfl] at h
    refine acalls_leK (acalls_go_mod [] Tryz.func109 rfl Tryz.results109 Tryz.ntmps109 ?_)
    simp only [go_sem]
    refine look_c ht (psat_app hp) ?_
    simp only [go_sem]
    refine is_c ht (psat_app hp) ?_
    simp only [go_sem,b1]
    first | (unfold ACallsH; simp only [put_some,put_none',ev_tmp,List.set_cons_succ,List.set_cons_zero,List.getD_cons_succ,List.getD_cons_zero]) | skip
    refine match_c hT he hpt _ _ _ h _ _ (psat_app hp) ?_
    simp only [go_sem,inS_get hp]
    exact fin_nd' hk
  | false =>
  rw [b1,if_neg (by decide)] at h
  cases b2 : isT t [116,114,121] with
  | true =>
    rw [b2,if_pos rfl] at h
    refine acalls_leK (acalls_go_mod [] Tryz.func109 rfl Tryz.results109 Tryz.ntmps109 ?_)
    simp only [go_sem]
    refine look_c ht (psat_app hp) ?_
    simp only [go_sem]
    refine is_c ht (psat_app hp) ?_
    simp only [go_sem,b1]
    first | (unfold ACallsH; simp only [put_some,put_none',ev_tmp,List.set_cons_succ,List.set_cons_zero,List.getD_cons_succ,List.getD_cons_zero]) | skip
    refine is_c ht (psat_app hp) ?_
    simp only [go_sem,b2]
    first | (unfold ACallsH; simp only [put_some,put_none',ev_tmp,List.set_cons_succ,List.set_cons_zero,List.getD_cons_succ,List.getD_cons_zero]) | skip
    refine try_c hT he _ _ _ h _ _ (psat_app hp) ?_
    simp only [go_sem,inS_get hp]
    exact fin_nd' hk
  | false =>
  rw [b2,if_neg (by decide)] at h
  cases b3 : isT t [114,101,116,114,121] with
  | true =>
    rw [b3,if_pos rfl] at h
    rw [Option.map_eq_some_iff] at h
    obtain ⟨⟨t1,p1⟩,h1,h⟩ := h
    cases h
    refine acalls_leK (acalls_go_mod [] Tryz.func109 rfl Tryz.results109 Tryz.ntmps109 ?_)
    simp only [go_sem]
    refine look_c ht (psat_app hp) ?_
    simp only [go_sem]
    refine is_c ht (psat_app hp) ?_
    simp only [go_sem,b1]
    first | (unfold ACallsH; simp only [put_some,put_none',ev_tmp,List.set_cons_succ,List.set_cons_zero,List.getD_cons_succ,List.getD_cons_zero]) | skip
    refine is_c ht (psat_app hp) ?_
    simp only [go_sem,b2]
    first | (unfold ACallsH; simp only [put_some,put_none',ev_tmp,List.set_cons_succ,List.set_cons_zero,List.getD_cons_succ,List.getD_cons_zero]) | skip
    refine is_c ht (psat_app hp) ?_
    simp only [go_sem,b3]
    first | (unfold ACallsH; simp only [put_some,put_none',ev_tmp,List.set_cons_succ,List.set_cons_zero,List.getD_cons_succ,List.getD_cons_zero]) | skip
    refine take_c hT h1 (psat_app hp) ?_
    simp only [go_sem,inS_get hp]
    first | (unfold ACallsH; simp only [put_some,put_none',ev_tmp,List.set_cons_succ,List.set_cons_zero,List.getD_cons_succ,List.getD_cons_zero]) | skip
    refine node_c rfl rfl rfl rfl (fun _ => rfl) (ids_slice (.inr rfl) (fun x hx => by cases hx)) ?_
    unfold ndFull
    simp only [go_sem,inS_get hp]
    exact fin_nd (z1 := 0) (z2 := 0) (m1 := .full) (m2 := .full) (nd := nodeF 19 t.pos [] []) hk (.inr rfl) (.inr rfl)
  | false =>
  rw [b3,if_neg (by decide)] at h
  cases b4 : isT t [40] with
  | false =>
    rw [b4,if_neg (by decide)] at h
    exact acalls_leK (atomE_c hT ht b1 b2 b3 b4 h hp ⟨_,le_ndE (leaf_names h),hk⟩)
  | true =>
    rw [b4,if_pos rfl] at h
    simp only [Option.bind_eq_some_iff,Prod.exists] at h
    obtain ⟨t1,p1,h1,b5,p2,h2,h⟩ := h
    cases b5 with
    | true =>
      simp only [if_true,Option.some.injEq,Prod.mk.injEq] at h
      obtain ⟨rfl,rfl⟩ := h
      refine acalls_leK (acalls_go_mod [] Tryz.func109 rfl Tryz.results109 Tryz.ntmps109 ?_)
      simp only [go_sem]
      refine look_c ht (psat_app hp) ?_
      simp only [go_sem]
      refine is_c ht (psat_app hp) ?_
      simp only [go_sem,b1]
      first | (unfold ACallsH; simp only [put_some,put_none',ev_tmp,List.set_cons_succ,List.set_cons_zero,List.getD_cons_succ,List.getD_cons_zero]) | skip
      refine is_c ht (psat_app hp) ?_
      simp only [go_sem,b2]
      first | (unfold ACallsH; simp only [put_some,put_none',ev_tmp,List.set_cons_succ,List.set_cons_zero,List.getD_cons_succ,List.getD_cons_zero]) | skip
      refine is_c ht (psat_app hp) ?_
      simp only [go_sem,b3]
      first | (unfold ACallsH; simp only [put_some,put_none',ev_tmp,List.set_cons_succ,List.set_cons_zero,List.getD_cons_succ,List.getD_cons_zero]) | skip
      refine is_c ht (psat_app hp) ?_
      simp only [go_sem,b4]
      first | (unfold ACallsH; simp only [put_some,put_none',ev_tmp,List.set_cons_succ,List.set_cons_zero,List.getD_cons_succ,List.getD_cons_zero]) | skip
      refine take_c hT h1 (psat_app hp) ?_
      simp only [go_sem,inS_get hp]
      first | (unfold ACallsH; simp only [put_some,put_none',ev_tmp,List.set_cons_succ,List.set_cons_zero,List.getD_cons_succ,List.getD_cons_zero]) | skip
      refine may_c hT h2 (psat_seta hp) ?_
      simp only [go_sem,inS_get hp]
      first | (unfold ACallsH; simp only [put_some,put_none',ev_tmp,List.set_cons_succ,List.set_cons_zero,List.getD_cons_succ,List.getD_cons_zero]) | skip
      refine node_c rfl rfl rfl rfl (fun _ => rfl) (ids_slice (.inr rfl) (fun x hx => by cases hx)) ?_
      unfold ndFull
      simp only [go_sem,inS_get hp]
      exact fin_nd (z1 := 0) (z2 := 0) (m1 := .full) (m2 := .full) (nd := nodeF 3 t.pos [] []) hk (.inr rfl) (.inr rfl)
    | false =>
      simp only [Bool.false_eq_true,if_false,Option.bind_eq_some_iff,Option.map_eq_some_iff,Prod.exists,Prod.mk.injEq] at h
      obtain ⟨x,p3,h3,p4,h4,rfl,rfl⟩ := h
      refine acalls_leK (acalls_go_mod [] Tryz.func109 rfl Tryz.results109 Tryz.ntmps109 ?_)
      simp only [go_sem]
      refine look_c ht (psat_app hp) ?_
      simp only [go_sem]
      refine is_c ht (psat_app hp) ?_
      simp only [go_sem,b1]
      first | (unfold ACallsH; simp only [put_some,put_none',ev_tmp,List.set_cons_succ,List.set_cons_zero,List.getD_cons_succ,List.getD_cons_zero]) | skip
      refine is_c ht (psat_app hp) ?_
      simp only [go_sem,b2]
      first | (unfold ACallsH; simp only [put_some,put_none',ev_tmp,List.set_cons_succ,List.set_cons_zero,List.getD_cons_succ,List.getD_cons_zero]) | skip
      refine is_c ht (psat_app hp) ?_
      simp only [go_sem,b3]
      first | (unfold ACallsH; simp only [put_some,put_none',ev_tmp,List.set_cons_succ,List.set_cons_zero,List.getD_cons_succ,List.getD_cons_zero]) | skip
      refine is_c ht (psat_app hp) ?_
      simp only [go_sem,b4]
      first | (unfold ACallsH; simp only [put_some,put_none',ev_tmp,List.set_cons_succ,List.set_cons_zero,List.getD_cons_succ,List.getD_cons_zero]) | skip
      refine take_c hT h1 (psat_app hp) ?_
      simp only [go_sem,inS_get hp]
      first | (unfold ACallsH; simp only [put_some,put_none',ev_tmp,List.set_cons_succ,List.set_cons_zero,List.getD_cons_succ,List.getD_cons_zero]) | skip
      refine may_c hT h2 (psat_seta hp) ?_
      simp only [go_sem,inS_get hp]
      first | (unfold ACallsH; simp only [put_some,put_none',ev_tmp,List.set_cons_succ,List.set_cons_zero,List.getD_cons_succ,List.getD_cons_zero]) | skip
      refine whole_c hT he _ _ _ h3 _ _ (psat_seta hp) ?_
      simp only [go_sem,inS_get hp]
      first | (unfold ACallsH; simp only [put_some,put_none',ev_tmp,List.set_cons_succ,List.set_cons_zero,List.getD_cons_succ,List.getD_cons_zero]) | skip
      refine must_c hT h4 (psat_seta hp) fun _ => ?_
      simp only [go_sem,inS_get hp]
      exact fin_nd' hk
end Go.Proofs
