import Derived.Test.YtnjiphlokjfdlaaGreatDoorM9
set_option maxHeartbeats 4000000
set_option linter.unusedSimpArgs false
set_option linter.unusedVariables false
set_option maxRecDepth 8000
namespace Go.Proofs
open Go Go.AL
theorem Tryz.app1 {n : Nat} (h : n ≤ 1000000) : AppOk Tryz.prog 22 22 1 n := appOk_of Tryz.aelem22 Tryz.aelem22 Tryz.asize9 Tryz.azero9 rfl Tryz.abytes9 (by omega) h
theorem decltype_c {T : List Tk} (hT : T.length ≤ 100000) {pid : Nat} {e : PM Nd} (he : HC T pid 94 e) : HC T pid 60 (decltypeF T e) := by
  intro p r p' h K st hp hk
  refine acalls_leK (acalls_go_mod [] Tryz.func60 rfl Tryz.results60 Tryz.ntmps60 ?_)
  unfold decltypeF at h
  simp only [Option.bind_eq_some_iff,Prod.exists] at h
  obtain ⟨t0,p1,h1,t1,p2,h2,n1,p3,h3,p4,h4,h⟩ := h
  simp only [go_sem]
  refine take_c hT h1 (psat_app hp) ?_
  simp only [go_sem,inS_get hp]
  refine word_c hT h2 (psat_seta hp) ?_
  simp only [go_sem,inS_get hp]
  refine node_c rfl rfl rfl rfl (fun _ => rfl) (ids_slice (.inr rfl) (fun x hx => by cases hx)) ?_
  unfold ndFull
  simp only [go_sem,inS_get hp]
  refine awp_ownC (st.length + 1) 4 1 0 (get_sx 1) (by simp) rfl ?_
  rw [set_sx]
  simp only [List.length_append,len_sx,List.length_cons,List.length_nil,List.set_cons_succ,List.set_cons_zero,List.append_assoc,List.cons_append,List.nil_append,Nat.zero_add,Nat.reduceAdd]
  refine awp_ownC (st.length + 1) 5 6 0 (get_sx 1) (by simp) rfl ?_
  rw [set_sx]
  simp only [List.length_append,len_sx,List.length_cons,List.length_nil,List.set_cons_succ,List.set_cons_zero,List.append_assoc,List.cons_append,List.nil_append,Nat.zero_add,Nat.reduceAdd]
  refine awp_rounds [] (fun m env s => ∃ (nd : Nd) (q : PS) (k k2 : Nat) (ex : St),namesL T m nd q = some (n1,p3) ∧ m + nd.names.length ≤ T.length + 2 ∧ nd.kids = [] ∧ env = [.ptr pid 0,.any,.ptr st.length 0,.any,.ptr (st.length + 1) 0,.any,.any,.any,.any,.any,.any,.any,.any,.any,.any,.any,.any,.any,.any,.any,.any,.any,.any,.any,.any,.any,.any,.any,.any,.any,.any,.any,.any,.any,.any,.any,.any,.any,.any,.any,.any,.any,.any,.any,.any,.any,.any,.any,.any,.any,.any,.any,.any,.any,.any,.any] ∧
    s = st.set pid (.cells (psL T q)) ++ (.cells zNd :: .cells (ndOwn2 (st.length + 2) k (st.length + 3) k2 nd) :: .tok k :: .tok k2 :: ex)) (n := T.length + 2) ?_ ⟨_,_,0,0,[],h3,by simp [nodeF,Nd.names],rfl,rfl,rfl⟩ ?_
  · repeat (first | exact leEnv_nil | refine leEnv_any _ ?_ | refine leEnv_same _ ?_ | refine leEnv_norm _ ?_)
  rintro m env s ⟨nd,q,k,k2,ex,hl,hm,hkd,rfl,rfl⟩
  cases m with
  | zero => cases hl
  | succ m =>
  simp only [namesL,Option.bind_eq_some_iff] at hl
  obtain ⟨t,h5,hl⟩ := hl
  simp only [go_sem]
  refine look_c h5 (psat_seta hp) ?_
  by_cases h6 : t.kind = 3
  · have c1 : (t.kind == 3) = true := by simp [h6]
    rw [if_pos h6] at hl
    simp only [Option.bind_eq_some_iff,Prod.exists] at hl
    obtain ⟨q1,h7,t2,q2,h8,hl⟩ := hl
    unfold ndOwn2
    simp only [go_sem,c1]
    refine most_c (p' := q1) (n := nd.names.length) (by simpa using h7) (psat_seta hp) fun _ => ?_
    simp only [go_sem,inS_get hp]
    refine awp_drawW [] [(0,[6]),(0,[6]),(0,[]),(3,[6]),(0,[]),(0,[]),(3,[8]),(0,[]),(1,[9])] Tryz.mixed rfl ?_
    simp only [go_sem,drawW_n,drawW_0,drawW_1,drawW_2,drawW_3,pend_n,pend_c,headD_c,isStore_s,zNd]
    refine ⟨_,_,take_c hT h8 (psat_seta hp) ⟨rfl,rfl⟩,?_⟩
    simp only [go_sem,drawW_n,drawW_0,drawW_1,drawW_2,drawW_3,pend_n,pend_c,headD_c,isStore_s,inS_get hp]
    rw [dk_eff]
    refine ⟨.slice .full 1 [.sc (.string (ba t2.text))],?_,?_⟩
    · simp only [go_sem]
      exact ⟨⟨[],by simp⟩,ids_txs _ _ (.inr rfl) _ [t2.text],.inl rfl⟩
    simp only [go_sem,drawW_n,drawW_0,drawW_1,drawW_2,drawW_3,pend_n,pend_c,headD_c,isStore_s]
    refine ⟨_,_,⟨Tryz.app1 (by omega),rfl,rfl⟩,?_⟩
    simp only [go_sem]
    refine ⟨m,_,by omega,?_,nd.addName t2.text,q2,k + 1,k2,_,hl,by rw [an_names]; simp; omega,by rw [an_kids]; exact hkd,rfl,by rw [an_kind,an_text,an_num,an_pos,an_names,an_kids,List.map_append]; rfl⟩
    repeat (first | exact leEnv_nil | refine leEnv_any _ ?_ | refine leEnv_same _ ?_ | refine leEnv_norm _ ?_)
  · have c1 : (t.kind == 3) = false := by simp [h6]
    rw [if_neg h6] at hl
    simp only [Option.some.injEq,Prod.mk.injEq] at hl
    obtain ⟨rfl,rfl⟩ := hl
    simp only [go_sem,c1]
    refine must_c hT h4 (psat_seta hp) fun _ => ?_
    simp only [go_sem,inS_get hp]
    refine awp_rounds [] (fun m env s => ∃ (nd : Nd) (q : PS) (k k2 : Nat) (more : Bool) (ex : St),consL T e m more nd q = some (r,p') ∧ m + nd.kids.length ≤ T.length + 2 ∧ env = [.ptr pid 0,.any,.ptr st.length 0,.any,.ptr (st.length + 1) 0,.sc (.bool more),.any,.any,.any,.any,.any,.any,.any,.any,.any,.any,.any,.any,.any,.any,.any,.any,.any,.any,.any,.any,.any,.any,.any,.any,.any,.any,.any,.any,.any,.any,.any,.any,.any,.any,.any,.any,.any,.any,.any,.any,.any,.any,.any,.any,.any,.any,.any,.any,.any,.any] ∧
      s = st.set pid (.cells (psL T q)) ++ (.cells zNd :: .cells (ndOwn2 (st.length + 2) k (st.length + 3) k2 nd) :: .tok k :: .tok k2 :: ex)) (n := T.length + 2) ?_ ⟨nd,_,k,k2,_,_,h,by simp [hkd],rfl,rfl⟩ ?_
    · repeat (first | exact leEnv_nil | refine leEnv_any _ ?_ | refine leEnv_same _ ?_ | refine leEnv_norm _ ?_)
    clear h
    rintro m env s ⟨nd,q,k,k2,more,ex,hl,hm,rfl,rfl⟩
    cases m with
    | zero => cases hl
    | succ m =>
    simp only [consL] at hl
    have y := cells_facts (psat_set (p' := q) hp)
    unfold psL at y
    cases more with
    | false =>
      simp only [Bool.false_eq_true,false_and,if_false,Option.some.injEq,Prod.mk.injEq] at hl
      obtain ⟨rfl,rfl⟩ := hl
      simp only [go_sem,ndOwn2,zNd]
      exact fin_own2 hk
    | true =>
      by_cases h0 : q.e = 0
      · have c1 : (q.e == 0) = true := by simp [h0]
        rw [if_pos ⟨rfl,h0⟩] at hl
        simp only [Option.bind_eq_some_iff,Prod.exists] at hl
        obtain ⟨q1,h3,x,q2,h4,b2,q3,h5,hl⟩ := hl
        unfold psL ndOwn2
        simp only [go_sem,y.1,y.2.1,y.2.2,c1]
        refine most_c (p' := q1) (n := nd.kids.length) (by simpa using h3) (psat_seta hp) fun _ => ?_
        simp only [go_sem,inS_get hp]
        refine awp_drawW [] [(0,[5]),(0,[5]),(0,[]),(3,[5]),(0,[]),(3,[7]),(0,[]),(1,[8])] Tryz.mixed rfl ?_
        simp only [go_sem,drawW_n,drawW_0,drawW_1,drawW_2,drawW_3,pend_n,pend_c,headD_c,isStore_s,zNd]
        refine ⟨_,_,con_c hT he _ _ _ h4 _ _ (psat_seta hp) ⟨rfl,rfl⟩,?_⟩
        simp only [go_sem,drawW_n,drawW_0,drawW_1,drawW_2,drawW_3,pend_n,pend_c,headD_c,isStore_s,inS_get hp]
        rw [dk_eff]
        refine ⟨.slice .full 6 [ndSV x],?_,?_⟩
        · simp only [go_sem]
          exact ⟨⟨[],by simp⟩,ids_nds _ _ (.inr rfl) _ [_],.inl rfl⟩
        simp only [go_sem,drawW_n,drawW_0,drawW_1,drawW_2,drawW_3,pend_n,pend_c,headD_c,isStore_s]
        refine ⟨_,_,⟨Tryz.app6 (by omega),rfl,rfl⟩,?_⟩
        simp only [go_sem]
        refine may_c hT h5 (psat_seta hp) ?_
        simp only [go_sem,inS_get hp]
        refine ⟨m,_,by omega,?_,nd.addKid x,q3,k,k2 + 1,b2,_,hl,by rw [ak_kids]; simp; omega,rfl,by rw [ak_kind,ak_text,ak_num,ak_pos,ak_names,ak_kids,List.map_append]; rfl⟩
        repeat (first | exact leEnv_nil | refine leEnv_any _ ?_ | refine leEnv_same _ ?_ | refine leEnv_norm _ ?_)
      · have c1 : (q.e == 0) = false := by simp [h0]
        rw [if_neg (by simp [h0])] at hl
        simp only [Option.some.injEq,Prod.mk.injEq] at hl
        obtain ⟨rfl,rfl⟩ := hl
        unfold psL ndOwn2 zNd
        simp only [go_sem,y.1,y.2.1,y.2.2,c1]
        exact fin_own2 hk
end Go.Proofs
