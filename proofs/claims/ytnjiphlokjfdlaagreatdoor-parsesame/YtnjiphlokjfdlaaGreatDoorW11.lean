import Derived.Test.YtnjiphlokjfdlaaGreatDoorW10
set_option maxHeartbeats 4000000
set_option linter.unusedSimpArgs false
set_option linter.unusedVariables false
set_option maxRecDepth 8000
namespace Go.Proofs
open Go Go.AL
theorem con_isT {t : Tk} (h : t.kind = 4) (s : Tx) : isT t s = false := by
  unfold isT; simp [h]
theorem pat_c {T : List Tk} (hT : T.length ≤ 100000) {pid : Nat} {e : PM Nd} (he : HC T pid 127 e) : HC T pid 127 (patS T e) := by
  intro p r p' h K st hp hk
  unfold patS at h
  simp only [Option.bind_eq_some_iff,Prod.exists] at h
  obtain ⟨t0,h1,n0,p1,h2,h⟩ := h
  refine acalls_leK (acalls_go_mod [] Tryz.func127 rfl Tryz.results127 Tryz.ntmps127 ?_)
  by_cases hc : t0.kind = 4
  · have c0 : (t0.kind == 4) = true := by simp [hc]
    rw [c0] at h
    have hl0 : leafF T [(1,1),(3,4),(4,5)] p = some (n0,p1) := by
      unfold patomF at h2
      rw [h1] at h2
      simp only [Option.bind_some,mayF,isF,h1,Option.map_some,con_isT hc,Bool.false_eq_true,if_false] at h2
      exact h2
    have hnm0 := leaf_names hl0
    simp only [go_sem]
    refine look_c h1 (psat_app hp) ?_
    simp only [go_sem,c0]
    refine patomE_c hT h1 (con_isT hc _) (con_isT hc _) hl0 (psat_app hp) ?_
    rw [ndE_eq hnm0]
    simp only [go_sem,inS_get hp]
    refine awp_ownC (st.length + 1) 5 6 0 (get_sx 1) (by simp) rfl ?_
    rw [set_sx]
    simp only [List.length_append,len_sx,List.length_cons,List.length_nil,List.set_cons_succ,List.set_cons_zero,List.append_assoc,List.cons_append,List.nil_append,Nat.zero_add,Nat.reduceAdd]
    refine awp_rounds [] (fun m env s => ∃ (nd : Nd) (q : PS) (k : Nat) (ex : St),patL T e m true nd q = some (r,p') ∧ m + nd.kids.length ≤ T.length + 2 ∧ nd.names = [] ∧ env = [.ptr pid 0,.any,.ptr st.length 0,.sc (.bool (t0.kind == 4)),.ptr (st.length + 1) 0,.any,.any,.any,.any,.any,.any,.any,.any,.any,.any,.any,.any,.any,.any,.any,.any,.any,.any,.any,.any,.any,.any,.any,.any,.any,.any,.any,.any,.any,.any,.any,.any,.any,.any,.any,.any,.any,.any,.any,.any,.any,.any,.any,.any,.any,.any] ∧
      s = st.set pid (.cells (psL T q)) ++ (.cells zNd :: .cells (ndOwn (st.length + 2) k nd) :: .tok k :: ex)) (n := T.length + 2) ?_ ⟨n0,_,0,[],h,by rw [hnm0.2]; simp,hnm0.1,rfl,by unfold ndOwn; rw [hnm0.2]; rfl⟩ ?_
    · repeat (first | exact leEnv_nil | refine leEnv_any _ ?_ | refine leEnv_same _ ?_ | refine leEnv_norm _ ?_)
    rintro m env s ⟨nd,q,k,ex,hl,hm,hnm,rfl,rfl⟩
    cases m with
    | zero => cases hl
    | succ m =>
    simp only [patL,if_true,Option.bind_eq_some_iff] at hl
    obtain ⟨b,hb,hl⟩ := hl
    unfold patMore at hb
    rw [Option.map_eq_some_iff] at hb
    obtain ⟨t,ht,hb⟩ := hb
    cases b0 : isT t [95] with
    | true =>
      simp only [b0,Bool.true_or,Bool.or_true] at hb
      subst hb
      simp only [if_true,Option.bind_eq_some_iff,Prod.exists] at hl
      obtain ⟨q1,h3,x,q2,h4,hl⟩ := hl
      unfold ndOwn
      simp only [go_sem,c0]
      refine is_c ht (psat_seta hp) ?_
      simp only [go_sem,c0,b0]
      first | (unfold ACallsH; simp only [put_some,put_none',ev_tmp,List.set_cons_succ,List.set_cons_zero,List.getD_cons_succ,List.getD_cons_zero]) | skip
      refine most_c (p' := q1) (n := nd.kids.length) (by simpa using h3) (psat_seta hp) fun _ => ?_
      simp only [go_sem,inS_get hp]
      refine awp_drawW [] [(0,[5]),(0,[5]),(0,[]),(3,[5]),(0,[]),(3,[7]),(0,[]),(1,[8])] Tryz.mixed rfl ?_
      simp only [go_sem,drawW_n,drawW_0,drawW_1,drawW_2,drawW_3,pend_n,pend_c,headD_c,isStore_s,zNd]
      refine ⟨_,_,patom_c hT he _ _ _ h4 _ _ (psat_seta hp) ⟨rfl,rfl⟩,?_⟩
      simp only [go_sem,drawW_n,drawW_0,drawW_1,drawW_2,drawW_3,pend_n,pend_c,headD_c,isStore_s,inS_get hp]
      rw [dk_eff]
      refine ⟨.slice .full 6 [ndSV x],?_,?_⟩
      · simp only [go_sem]
        exact ⟨⟨[],by simp⟩,ids_nds _ _ (.inr rfl) _ [_],.inl rfl⟩
      simp only [go_sem,drawW_n,drawW_0,drawW_1,drawW_2,drawW_3,pend_n,pend_c,headD_c,isStore_s]
      refine ⟨_,_,⟨Tryz.app6 (by omega),rfl,rfl⟩,?_⟩
      simp only [go_sem]
      refine ⟨m,_,by omega,?_,nd.addKid x,q2,k + 1,_,hl,by rw [ak_kids]; simp; omega,by rw [ak_names]; exact hnm,rfl,by rw [ak_kind,ak_text,ak_num,ak_pos,ak_kids,List.map_append]; rfl⟩
      repeat (first | exact leEnv_nil | refine leEnv_any _ ?_ | refine leEnv_same _ ?_ | refine leEnv_norm _ ?_)
    | false =>
      cases b1 : isT t [40] with
      | true =>
        simp only [b1,Bool.true_or,Bool.or_true] at hb
        subst hb
        simp only [if_true,Option.bind_eq_some_iff,Prod.exists] at hl
        obtain ⟨q1,h3,x,q2,h4,hl⟩ := hl
        unfold ndOwn
        simp only [go_sem,c0]
        refine is_c ht (psat_seta hp) ?_
        simp only [go_sem,c0,b0]
        first | (unfold ACallsH; simp only [put_some,put_none',ev_tmp,List.set_cons_succ,List.set_cons_zero,List.getD_cons_succ,List.getD_cons_zero]) | skip
        refine is_c ht (psat_seta hp) ?_
        simp only [go_sem,c0,b0,b1]
        first | (unfold ACallsH; simp only [put_some,put_none',ev_tmp,List.set_cons_succ,List.set_cons_zero,List.getD_cons_succ,List.getD_cons_zero]) | skip
        refine most_c (p' := q1) (n := nd.kids.length) (by simpa using h3) (psat_seta hp) fun _ => ?_
        simp only [go_sem,inS_get hp]
        refine awp_drawW [] [(0,[5]),(0,[5]),(0,[]),(3,[5]),(0,[]),(3,[7]),(0,[]),(1,[8])] Tryz.mixed rfl ?_
        simp only [go_sem,drawW_n,drawW_0,drawW_1,drawW_2,drawW_3,pend_n,pend_c,headD_c,isStore_s,zNd]
        refine ⟨_,_,patom_c hT he _ _ _ h4 _ _ (psat_seta hp) ⟨rfl,rfl⟩,?_⟩
        simp only [go_sem,drawW_n,drawW_0,drawW_1,drawW_2,drawW_3,pend_n,pend_c,headD_c,isStore_s,inS_get hp]
        rw [dk_eff]
        refine ⟨.slice .full 6 [ndSV x],?_,?_⟩
        · simp only [go_sem]
          exact ⟨⟨[],by simp⟩,ids_nds _ _ (.inr rfl) _ [_],.inl rfl⟩
        simp only [go_sem,drawW_n,drawW_0,drawW_1,drawW_2,drawW_3,pend_n,pend_c,headD_c,isStore_s]
        refine ⟨_,_,⟨Tryz.app6 (by omega),rfl,rfl⟩,?_⟩
        simp only [go_sem]
        refine ⟨m,_,by omega,?_,nd.addKid x,q2,k + 1,_,hl,by rw [ak_kids]; simp; omega,by rw [ak_names]; exact hnm,rfl,by rw [ak_kind,ak_text,ak_num,ak_pos,ak_kids,List.map_append]; rfl⟩
        repeat (first | exact leEnv_nil | refine leEnv_any _ ?_ | refine leEnv_same _ ?_ | refine leEnv_norm _ ?_)
      | false =>
        cases b2 : (t.kind == 3) with
        | true =>
          simp only [b2,Bool.true_or,Bool.or_true] at hb
          subst hb
          simp only [if_true,Option.bind_eq_some_iff,Prod.exists] at hl
          obtain ⟨q1,h3,x,q2,h4,hl⟩ := hl
          unfold ndOwn
          simp only [go_sem,c0]
          refine is_c ht (psat_seta hp) ?_
          simp only [go_sem,c0,b0]
          first | (unfold ACallsH; simp only [put_some,put_none',ev_tmp,List.set_cons_succ,List.set_cons_zero,List.getD_cons_succ,List.getD_cons_zero]) | skip
          refine is_c ht (psat_seta hp) ?_
          simp only [go_sem,c0,b0,b1]
          first | (unfold ACallsH; simp only [put_some,put_none',ev_tmp,List.set_cons_succ,List.set_cons_zero,List.getD_cons_succ,List.getD_cons_zero]) | skip
          refine look_c ht (psat_seta hp) ?_
          simp only [go_sem,c0,b0,b1,b2]
          first | (unfold ACallsH; simp only [put_some,put_none',ev_tmp,List.set_cons_succ,List.set_cons_zero,List.getD_cons_succ,List.getD_cons_zero]) | skip
          refine most_c (p' := q1) (n := nd.kids.length) (by simpa using h3) (psat_seta hp) fun _ => ?_
          simp only [go_sem,inS_get hp]
          refine awp_drawW [] [(0,[5]),(0,[5]),(0,[]),(3,[5]),(0,[]),(3,[7]),(0,[]),(1,[8])] Tryz.mixed rfl ?_
          simp only [go_sem,drawW_n,drawW_0,drawW_1,drawW_2,drawW_3,pend_n,pend_c,headD_c,isStore_s,zNd]
          refine ⟨_,_,patom_c hT he _ _ _ h4 _ _ (psat_seta hp) ⟨rfl,rfl⟩,?_⟩
          simp only [go_sem,drawW_n,drawW_0,drawW_1,drawW_2,drawW_3,pend_n,pend_c,headD_c,isStore_s,inS_get hp]
          rw [dk_eff]
          refine ⟨.slice .full 6 [ndSV x],?_,?_⟩
          · simp only [go_sem]
            exact ⟨⟨[],by simp⟩,ids_nds _ _ (.inr rfl) _ [_],.inl rfl⟩
          simp only [go_sem,drawW_n,drawW_0,drawW_1,drawW_2,drawW_3,pend_n,pend_c,headD_c,isStore_s]
          refine ⟨_,_,⟨Tryz.app6 (by omega),rfl,rfl⟩,?_⟩
          simp only [go_sem]
          refine ⟨m,_,by omega,?_,nd.addKid x,q2,k + 1,_,hl,by rw [ak_kids]; simp; omega,by rw [ak_names]; exact hnm,rfl,by rw [ak_kind,ak_text,ak_num,ak_pos,ak_kids,List.map_append]; rfl⟩
          repeat (first | exact leEnv_nil | refine leEnv_any _ ?_ | refine leEnv_same _ ?_ | refine leEnv_norm _ ?_)
        | false =>
          cases b3 : (t.kind == 1) with
          | true =>
            simp only [b3,Bool.true_or,Bool.or_true] at hb
            subst hb
            simp only [if_true,Option.bind_eq_some_iff,Prod.exists] at hl
            obtain ⟨q1,h3,x,q2,h4,hl⟩ := hl
            unfold ndOwn
            simp only [go_sem,c0]
            refine is_c ht (psat_seta hp) ?_
            simp only [go_sem,c0,b0]
            first | (unfold ACallsH; simp only [put_some,put_none',ev_tmp,List.set_cons_succ,List.set_cons_zero,List.getD_cons_succ,List.getD_cons_zero]) | skip
            refine is_c ht (psat_seta hp) ?_
            simp only [go_sem,c0,b0,b1]
            first | (unfold ACallsH; simp only [put_some,put_none',ev_tmp,List.set_cons_succ,List.set_cons_zero,List.getD_cons_succ,List.getD_cons_zero]) | skip
            refine look_c ht (psat_seta hp) ?_
            simp only [go_sem,c0,b0,b1,b2]
            first | (unfold ACallsH; simp only [put_some,put_none',ev_tmp,List.set_cons_succ,List.set_cons_zero,List.getD_cons_succ,List.getD_cons_zero]) | skip
            refine look_c ht (psat_seta hp) ?_
            simp only [go_sem,c0,b0,b1,b2,b3]
            first | (unfold ACallsH; simp only [put_some,put_none',ev_tmp,List.set_cons_succ,List.set_cons_zero,List.getD_cons_succ,List.getD_cons_zero]) | skip
            refine most_c (p' := q1) (n := nd.kids.length) (by simpa using h3) (psat_seta hp) fun _ => ?_
            simp only [go_sem,inS_get hp]
            refine awp_drawW [] [(0,[5]),(0,[5]),(0,[]),(3,[5]),(0,[]),(3,[7]),(0,[]),(1,[8])] Tryz.mixed rfl ?_
            simp only [go_sem,drawW_n,drawW_0,drawW_1,drawW_2,drawW_3,pend_n,pend_c,headD_c,isStore_s,zNd]
            refine ⟨_,_,patom_c hT he _ _ _ h4 _ _ (psat_seta hp) ⟨rfl,rfl⟩,?_⟩
            simp only [go_sem,drawW_n,drawW_0,drawW_1,drawW_2,drawW_3,pend_n,pend_c,headD_c,isStore_s,inS_get hp]
            rw [dk_eff]
            refine ⟨.slice .full 6 [ndSV x],?_,?_⟩
            · simp only [go_sem]
              exact ⟨⟨[],by simp⟩,ids_nds _ _ (.inr rfl) _ [_],.inl rfl⟩
            simp only [go_sem,drawW_n,drawW_0,drawW_1,drawW_2,drawW_3,pend_n,pend_c,headD_c,isStore_s]
            refine ⟨_,_,⟨Tryz.app6 (by omega),rfl,rfl⟩,?_⟩
            simp only [go_sem]
            refine ⟨m,_,by omega,?_,nd.addKid x,q2,k + 1,_,hl,by rw [ak_kids]; simp; omega,by rw [ak_names]; exact hnm,rfl,by rw [ak_kind,ak_text,ak_num,ak_pos,ak_kids,List.map_append]; rfl⟩
            repeat (first | exact leEnv_nil | refine leEnv_any _ ?_ | refine leEnv_same _ ?_ | refine leEnv_norm _ ?_)
          | false =>
            cases b4 : (t.kind == 4) with
            | true =>
              simp only [b4,Bool.true_or,Bool.or_true] at hb
              subst hb
              simp only [if_true,Option.bind_eq_some_iff,Prod.exists] at hl
              obtain ⟨q1,h3,x,q2,h4,hl⟩ := hl
              unfold ndOwn
              simp only [go_sem,c0]
              refine is_c ht (psat_seta hp) ?_
              simp only [go_sem,c0,b0]
              first | (unfold ACallsH; simp only [put_some,put_none',ev_tmp,List.set_cons_succ,List.set_cons_zero,List.getD_cons_succ,List.getD_cons_zero]) | skip
              refine is_c ht (psat_seta hp) ?_
              simp only [go_sem,c0,b0,b1]
              first | (unfold ACallsH; simp only [put_some,put_none',ev_tmp,List.set_cons_succ,List.set_cons_zero,List.getD_cons_succ,List.getD_cons_zero]) | skip
              refine look_c ht (psat_seta hp) ?_
              simp only [go_sem,c0,b0,b1,b2]
              first | (unfold ACallsH; simp only [put_some,put_none',ev_tmp,List.set_cons_succ,List.set_cons_zero,List.getD_cons_succ,List.getD_cons_zero]) | skip
              refine look_c ht (psat_seta hp) ?_
              simp only [go_sem,c0,b0,b1,b2,b3]
              first | (unfold ACallsH; simp only [put_some,put_none',ev_tmp,List.set_cons_succ,List.set_cons_zero,List.getD_cons_succ,List.getD_cons_zero]) | skip
              refine look_c ht (psat_seta hp) ?_
              simp only [go_sem,c0,b0,b1,b2,b3,b4]
              first | (unfold ACallsH; simp only [put_some,put_none',ev_tmp,List.set_cons_succ,List.set_cons_zero,List.getD_cons_succ,List.getD_cons_zero]) | skip
              refine most_c (p' := q1) (n := nd.kids.length) (by simpa using h3) (psat_seta hp) fun _ => ?_
              simp only [go_sem,inS_get hp]
              refine awp_drawW [] [(0,[5]),(0,[5]),(0,[]),(3,[5]),(0,[]),(3,[7]),(0,[]),(1,[8])] Tryz.mixed rfl ?_
              simp only [go_sem,drawW_n,drawW_0,drawW_1,drawW_2,drawW_3,pend_n,pend_c,headD_c,isStore_s,zNd]
              refine ⟨_,_,patom_c hT he _ _ _ h4 _ _ (psat_seta hp) ⟨rfl,rfl⟩,?_⟩
              simp only [go_sem,drawW_n,drawW_0,drawW_1,drawW_2,drawW_3,pend_n,pend_c,headD_c,isStore_s,inS_get hp]
              rw [dk_eff]
              refine ⟨.slice .full 6 [ndSV x],?_,?_⟩
              · simp only [go_sem]
                exact ⟨⟨[],by simp⟩,ids_nds _ _ (.inr rfl) _ [_],.inl rfl⟩
              simp only [go_sem,drawW_n,drawW_0,drawW_1,drawW_2,drawW_3,pend_n,pend_c,headD_c,isStore_s]
              refine ⟨_,_,⟨Tryz.app6 (by omega),rfl,rfl⟩,?_⟩
              simp only [go_sem]
              refine ⟨m,_,by omega,?_,nd.addKid x,q2,k + 1,_,hl,by rw [ak_kids]; simp; omega,by rw [ak_names]; exact hnm,rfl,by rw [ak_kind,ak_text,ak_num,ak_pos,ak_kids,List.map_append]; rfl⟩
              repeat (first | exact leEnv_nil | refine leEnv_any _ ?_ | refine leEnv_same _ ?_ | refine leEnv_norm _ ?_)
            | false =>
              simp only [b0,b1,b2,b3,b4,Bool.or_false] at hb
              subst hb
              simp only [Bool.false_eq_true,if_false,Option.some.injEq,Prod.mk.injEq] at hl
              obtain ⟨rfl,rfl⟩ := hl
              unfold ndOwn zNd
              simp only [go_sem,c0]
              refine is_c ht (psat_seta hp) ?_
              simp only [go_sem,c0,b0]
              first | (unfold ACallsH; simp only [put_some,put_none',ev_tmp,List.set_cons_succ,List.set_cons_zero,List.getD_cons_succ,List.getD_cons_zero]) | skip
              refine is_c ht (psat_seta hp) ?_
              simp only [go_sem,c0,b0,b1]
              first | (unfold ACallsH; simp only [put_some,put_none',ev_tmp,List.set_cons_succ,List.set_cons_zero,List.getD_cons_succ,List.getD_cons_zero]) | skip
              refine look_c ht (psat_seta hp) ?_
              simp only [go_sem,c0,b0,b1,b2]
              first | (unfold ACallsH; simp only [put_some,put_none',ev_tmp,List.set_cons_succ,List.set_cons_zero,List.getD_cons_succ,List.getD_cons_zero]) | skip
              refine look_c ht (psat_seta hp) ?_
              simp only [go_sem,c0,b0,b1,b2,b3]
              first | (unfold ACallsH; simp only [put_some,put_none',ev_tmp,List.set_cons_succ,List.set_cons_zero,List.getD_cons_succ,List.getD_cons_zero]) | skip
              refine look_c ht (psat_seta hp) ?_
              simp only [go_sem,c0,b0,b1,b2,b3,b4]
              exact fin_own hk hnm
  · have c0 : (t0.kind == 4) = false := by simp [hc]
    rw [c0] at h
    simp only [patL,Bool.false_eq_true,if_false,Option.some.injEq,Prod.mk.injEq] at h
    obtain ⟨rfl,rfl⟩ := h
    simp only [go_sem]
    refine look_c h1 (psat_app hp) ?_
    simp only [go_sem,c0]
    refine patom_c hT he _ _ _ h2 _ _ (psat_app hp) ?_
    simp only [go_sem,inS_get hp]
    refine awp_rounds [] (fun m env s => env = [.ptr pid 0,.any,.ptr st.length 0,.sc (.bool (t0.kind == 4)),.ptr (st.length + 1) 0,.any,.any,.any,.any,.any,.any,.any,.any,.any,.any,.any,.any,.any,.any,.any,.any,.any,.any,.any,.any,.any,.any,.any,.any,.any,.any,.any,.any,.any,.any,.any,.any,.any,.any,.any,.any,.any,.any,.any,.any,.any,.any,.any,.any,.any,.any] ∧
      s = st.set pid (.cells (psL T p1)) ++ [.cells zNd,.cells (ndSV n0).cells]) (n := 1) ?_ ⟨rfl,rfl⟩ ?_
    · repeat (first | exact leEnv_nil | refine leEnv_any _ ?_ | refine leEnv_same _ ?_ | refine leEnv_norm _ ?_)
    rintro m env s ⟨rfl,rfl⟩
    unfold zNd
    simp only [go_sem,c0]
    exact fin_nd' hk
end Go.Proofs
