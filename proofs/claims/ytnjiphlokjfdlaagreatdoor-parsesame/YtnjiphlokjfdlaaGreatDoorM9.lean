import Derived.Test.YtnjiphlokjfdlaaGreatDoorN8
set_option maxHeartbeats 4000000
set_option linter.unusedSimpArgs false
set_option linter.unusedVariables false
set_option maxRecDepth 8000
namespace Go.Proofs
open Go Go.AL
theorem Tryz.app6 {n : Nat} (h : n ≤ 1000000) : AppOk Tryz.prog 23 23 6 n := appOk_of Tryz.aelem23 Tryz.aelem23 Tryz.asize25 Tryz.azero25 rfl Tryz.abytes25 (by omega) h
theorem ty_c {T : List Tk} (hT : T.length ≤ 100000) {pid : Nat} {e : PM Nd} (he : HC T pid 94 e) : HC T pid 94 (tyS T e) := by
  intro p r p' h K st hp hk
  refine acalls_leK (acalls_go_mod [] Tryz.func94 rfl Tryz.results94 Tryz.ntmps94 ?_)
  unfold tyS at h
  simp only [Option.bind_eq_some_iff,Prod.exists] at h
  obtain ⟨t0,p1,h1,h⟩ := h
  simp only [go_sem]
  refine word_c hT h1 (psat_app hp) ?_
  simp only [go_sem,inS_get hp]
  refine node_c rfl rfl rfl rfl (fun _ => rfl) (ids_slice (.inr rfl) (fun x hx => by cases hx)) ?_
  unfold ndFull
  simp only [go_sem,inS_get hp]
  refine awp_ownC (st.length + 2) 5 6 0 (get_sx 2) (by simp) rfl ?_
  rw [set_sx]
  simp only [List.length_append,len_sx,List.length_cons,List.length_nil,List.set_cons_succ,List.set_cons_zero,List.append_assoc,List.cons_append,List.nil_append,Nat.zero_add,Nat.reduceAdd]
  refine awp_rounds [] (fun m env s => ∃ (nd : Nd) (q : PS) (k : Nat) (b : Ob) (ex : St),tyL T e m nd q = some (r,p') ∧ m + nd.kids.length ≤ T.length + 2 ∧ nd.names = [] ∧ env = [.ptr pid 0,.any,.ptr st.length 0,.any,.ptr (st.length + 2) 0,.any,.any,.any,.any,.any,.any,.any,.any,.any,.any,.any,.any,.any,.any,.any,.any,.any,.any,.any,.any,.any,.any,.any,.any,.any,.any,.any,.any,.any,.any,.any,.any,.any,.any,.any,.any,.any] ∧
    s = st.set pid (.cells (psL T q)) ++ (.cells zNd :: b :: .cells (ndOwn (st.length + 3) k nd) :: .tok k :: ex)) (n := T.length + 2) ?_ ⟨_,_,0,_,[],h,by simp [nodeF,Nd.kids],rfl,rfl,rfl⟩ ?_
  · repeat (first | exact leEnv_nil | refine leEnv_any _ ?_ | refine leEnv_same _ ?_ | refine leEnv_norm _ ?_)
  rintro m env s ⟨nd,q,k,b,ex,hl,hm,hnm,rfl,rfl⟩
  cases m with
  | zero => cases hl
  | succ m =>
  simp only [tyL,Option.bind_eq_some_iff] at hl
  obtain ⟨t,h2,hl⟩ := hl
  simp only [go_sem]
  refine look_c h2 (psat_seta hp) ?_
  have hle : k + 1 ≤ k + 1 := Nat.le_refl _
  by_cases h3 : t.kind = 3
  · have c1 : (t.kind == 3) = true := by simp [h3]
    rw [if_pos h3,Option.bind_eq_some_iff] at hl
    obtain ⟨⟨t1,q1⟩,h4,hl⟩ := hl
    simp only [go_sem,c1]
    refine take_c hT h4 (psat_seta hp) ?_
    simp only [go_sem,inS_get hp]
    refine awp_drawW [] [(0,[8]),(0,[8]),(0,[]),(0,[]),(0,[]),(0,[]),(3,[8]),(0,[]),(3,[10]),(0,[]),(1,[11])] Tryz.mixed rfl ?_
    simp only [go_sem,drawW_n,drawW_0,drawW_1,drawW_2,drawW_3,pend_n,pend_c,headD_c,isStore_s,ndOwn,zNd]
    refine ⟨_,_,nodeN_c (kids := []) (.inr rfl) ⟨rfl,rfl⟩,?_⟩
    simp only [go_sem,drawW_n,drawW_0,drawW_1,drawW_2,drawW_3,pend_n,pend_c,headD_c,isStore_s]
    rw [dk_eff]
    refine ⟨.slice .full 6 [ndSV (nodeF 27 t.pos t.text [])],?_,?_⟩
    · simp only [go_sem]
      exact ⟨⟨[],by simp⟩,ids_nds _ _ (.inr rfl) _ [_],.inl rfl⟩
    simp only [go_sem,drawW_n,drawW_0,drawW_1,drawW_2,drawW_3,pend_n,pend_c,headD_c,isStore_s]
    refine ⟨_,_,⟨Tryz.app6 (by omega),rfl,rfl⟩,?_⟩
    simp only [go_sem]
    refine ⟨m,_,by omega,?_,nd.addKid (nodeF 27 t.pos t.text []),q1,k + 1,b,_,hl,by rw [ak_kids]; simp; omega,by rw [ak_names]; exact hnm,rfl,by rw [ak_kind,ak_text,ak_num,ak_pos,ak_kids,List.map_append]; rfl⟩
    repeat (first | exact leEnv_nil | refine leEnv_any _ ?_ | refine leEnv_same _ ?_ | refine leEnv_norm _ ?_)
  · have c1 : (t.kind == 3) = false := by simp [h3]
    rw [if_neg h3] at hl
    unfold isF at hl
    rw [h2] at hl
    simp only [Option.map_some,Option.bind_some] at hl
    simp only [go_sem,c1]
    refine is_c h2 (psat_seta hp) ?_
    cases hb : isT t [40] with
    | true =>
      rw [hb] at hl
      simp only [if_true,Option.bind_eq_some_iff,Prod.exists] at hl
      obtain ⟨x,q1,h4,hl⟩ := hl
      simp only [go_sem]
      refine awp_drawW [] [(0,[5]),(0,[5]),(0,[]),(3,[5]),(0,[]),(3,[7]),(0,[]),(1,[8])] Tryz.mixed rfl ?_
      simp only [go_sem,drawW_n,drawW_0,drawW_1,drawW_2,drawW_3,pend_n,pend_c,headD_c,isStore_s,ndOwn,zNd]
      refine ⟨_,_,round_c hT he rfl h4 (psat_seta hp) ⟨rfl,rfl⟩,?_⟩
      simp only [go_sem,drawW_n,drawW_0,drawW_1,drawW_2,drawW_3,pend_n,pend_c,headD_c,isStore_s,inS_get hp]
      rw [dk_eff]
      refine ⟨.slice .full 6 [ndSV x],?_,?_⟩
      · simp only [go_sem]
        exact ⟨⟨[],by simp⟩,ids_nds _ _ (.inr rfl) _ [_],.inl rfl⟩
      simp only [go_sem,drawW_n,drawW_0,drawW_1,drawW_2,drawW_3,pend_n,pend_c,headD_c,isStore_s]
      refine ⟨_,_,⟨Tryz.app6 (by omega),rfl,rfl⟩,?_⟩
      simp only [go_sem]
      refine ⟨m,_,by omega,?_,nd.addKid x,q1,k + 1,b,_,hl,by rw [ak_kids]; simp; omega,by rw [ak_names]; exact hnm,rfl,by rw [ak_kind,ak_text,ak_num,ak_pos,ak_kids,List.map_append]; rfl⟩
      repeat (first | exact leEnv_nil | refine leEnv_any _ ?_ | refine leEnv_same _ ?_ | refine leEnv_norm _ ?_)
    | false =>
      rw [hb] at hl
      simp only [Bool.false_eq_true,if_false,Option.some.injEq,Prod.mk.injEq] at hl
      obtain ⟨rfl,rfl⟩ := hl
      simp only [go_sem,ndOwn,zNd]
      exact fin_own hk hnm
end Go.Proofs
namespace Go.Proofs
open Go Go.AL
theorem con_c {T : List Tk} (hT : T.length ≤ 100000) {pid : Nat} {e : PM Nd} (he : HC T pid 94 e) : HC T pid 77 (conF T e) := by
  intro p r p' h K st hp hk
  refine acalls_leK (acalls_go_mod [] Tryz.func77 rfl Tryz.results77 Tryz.ntmps77 ?_)
  unfold conF at h
  simp only [Option.bind_eq_some_iff,Prod.exists] at h
  obtain ⟨t0,p1,h1,b0,p2,h2,h⟩ := h
  simp only [go_sem]
  refine word_c hT h1 (psat_app hp) ?_
  simp only [go_sem,inS_get hp]
  refine node_c rfl rfl rfl rfl (fun _ => rfl) (ids_slice (.inr rfl) (fun x hx => by cases hx)) ?_
  unfold ndFull
  cases b0 with
  | false =>
    simp only [Bool.false_eq_true,if_false,Option.some.injEq,Prod.mk.injEq] at h
    obtain ⟨rfl,rfl⟩ := h
    simp only [go_sem,inS_get hp]
    refine may_c hT h2 (psat_seta hp) ?_
    simp only [go_sem,inS_get hp]
    exact fin_nd (z1 := 0) (z2 := 0) (m1 := .full) (m2 := .full) (nd := nodeF 26 t0.pos t0.text []) hk (.inr rfl) (.inr rfl)
  | true =>
    rw [if_pos rfl] at h
    simp only [go_sem,inS_get hp]
    refine may_c hT h2 (psat_seta hp) ?_
    simp only [go_sem,inS_get hp]
    refine awp_ownC (st.length + 2) 5 6 0 (get_sx 2) (by simp) rfl ?_
    rw [set_sx]
    simp only [List.length_append,len_sx,List.length_cons,List.length_nil,List.set_cons_succ,List.set_cons_zero,List.append_assoc,List.cons_append,List.nil_append,Nat.zero_add,Nat.reduceAdd]
    refine awp_rounds [] (fun m env s => ∃ (nd : Nd) (q : PS) (k : Nat) (b : Ob) (more : Bool) (ex : St),conL T e m more nd q = some (r,p') ∧ m + nd.kids.length ≤ T.length + 2 ∧ nd.names = [] ∧ env = [.ptr pid 0,.any,.ptr st.length 0,.any,.ptr (st.length + 2) 0,.sc (.bool more),.any,.any,.any,.any,.any,.any,.any,.any,.any,.any,.any,.any,.any,.any,.any,.any,.any,.any,.any,.any,.any,.any,.any,.any,.any,.any,.any,.any,.any,.any,.any,.any,.any,.any] ∧
      s = st.set pid (.cells (psL T q)) ++ (.cells zNd :: b :: .cells (ndOwn (st.length + 3) k nd) :: .tok k :: ex)) (n := T.length + 2) ?_ ⟨_,_,0,_,_,[],h,by simp [nodeF,Nd.kids],rfl,rfl,rfl⟩ ?_
    · repeat (first | exact leEnv_nil | refine leEnv_any _ ?_ | refine leEnv_same _ ?_ | refine leEnv_norm _ ?_)
    rintro m env s ⟨nd,q,k,b,more,ex,hl,hm,hnm,rfl,rfl⟩
    cases m with
    | zero => cases hl
    | succ m =>
    simp only [conL] at hl
    have y := cells_facts (psat_set (p' := q) hp)
    unfold psL at y
    cases more with
    | false =>
      simp only [Bool.false_eq_true,false_and,if_false,Option.some.injEq,Prod.mk.injEq] at hl
      obtain ⟨rfl,rfl⟩ := hl
      simp only [go_sem,ndOwn,zNd]
      exact fin_own hk hnm
    | true =>
      by_cases h0 : q.e = 0
      · have c1 : (q.e == 0) = true := by simp [h0]
        rw [if_pos ⟨rfl,h0⟩] at hl
        simp only [Option.bind_eq_some_iff,Prod.exists] at hl
        obtain ⟨q1,h3,x,q2,h4,b2,q3,h5,hl⟩ := hl
        unfold psL ndOwn
        simp only [go_sem,y.1,y.2.1,y.2.2,c1]
        refine most_c (p' := q1) (n := nd.kids.length) (by simpa using h3) (psat_seta hp) fun _ => ?_
        simp only [go_sem,inS_get hp]
        refine awp_drawW [] [(0,[5]),(0,[5]),(0,[]),(3,[5]),(0,[]),(3,[7]),(0,[]),(1,[8])] Tryz.mixed rfl ?_
        simp only [go_sem,drawW_n,drawW_0,drawW_1,drawW_2,drawW_3,pend_n,pend_c,headD_c,isStore_s,zNd]
        refine ⟨_,_,in_c he rfl h4 (psat_seta hp) ⟨rfl,rfl⟩,?_⟩
        simp only [go_sem,drawW_n,drawW_0,drawW_1,drawW_2,drawW_3,pend_n,pend_c,headD_c,isStore_s,inS_get hp]
        rw [dk_eff]
        refine ⟨.slice .full 6 [ndSV x],?_,?_⟩
        · simp only [go_sem]
          exact ⟨⟨[],by simp⟩,ids_nds _ _ (.inr rfl) _ [_],.inl rfl⟩
        simp only [go_sem,drawW_n,drawW_0,drawW_1,drawW_2,drawW_3,pend_n,pend_c,headD_c,isStore_s]
        refine ⟨_,_,⟨Tryz.app6 (by omega),rfl,rfl⟩,?_⟩
        simp only [go_sem]
        refine may_c hT h5 (psat_seta hp) ?_
        simp only [go_sem,inS_get hp]
        refine ⟨m,_,by omega,?_,nd.addKid x,q3,k + 1,b,b2,_,hl,by rw [ak_kids]; simp; omega,by rw [ak_names]; exact hnm,rfl,by rw [ak_kind,ak_text,ak_num,ak_pos,ak_kids,List.map_append]; rfl⟩
        repeat (first | exact leEnv_nil | refine leEnv_any _ ?_ | refine leEnv_same _ ?_ | refine leEnv_norm _ ?_)
      · have c1 : (q.e == 0) = false := by simp [h0]
        rw [if_neg (by simp [h0])] at hl
        simp only [Option.some.injEq,Prod.mk.injEq] at hl
        obtain ⟨rfl,rfl⟩ := hl
        unfold psL ndOwn zNd
        simp only [go_sem,y.1,y.2.1,y.2.2,c1]
        exact fin_own hk hnm
end Go.Proofs
