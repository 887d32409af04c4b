import Derived.Test.YtnjiphlokjfdlaaGreatDoorW15
import Derived.Test.YtnjiphlokjfdlaaGreatDoorW11
import Derived.Test.YtnjiphlokjfdlaaGreatDoorN1
set_option maxHeartbeats 4000000
set_option linter.unusedSimpArgs false
set_option linter.unusedVariables false
set_option maxRecDepth 8000
namespace Go.Proofs
open Go Go.AL
theorem tyF_c {T : List Tk} (hT : T.length ≤ 100000) {pid : Nat} : ∀ n,HC T pid 94 (tyF T n) := by
  intro n
  induction n with
  | zero => intro p r p' h; cases h
  | succ n ih => exact ty_c hT ih
theorem patF_c {T : List Tk} (hT : T.length ≤ 100000) {pid : Nat} : ∀ n,HC T pid 127 (patF T n) := by
  intro n
  induction n with
  | zero => intro p r p' h; cases h
  | succ n ih => exact pat_c hT ih
theorem expF_c {T : List Tk} (hT : T.length ≤ 100000) {pid : Nat} : ∀ n,HC T pid 45 (expF T n) := by
  intro n
  induction n with
  | zero => intro p r p' h; cases h
  | succ n ih => exact exp_c hT ih (patF_c hT (n + 1))
theorem get_s1 {st ex : St} (k : Nat) : (st ++ ex)[st.length + k]? = ex[k]? := by
  rw [List.getElem?_append_right (by omega)]; simp
theorem set_s1 {st ex : St} {Y : Ob} (k : Nat) : (st ++ ex).set (st.length + k) Y = st ++ ex.set k Y := by
  rw [List.set_append_right _ _ (by omega)]; simp
theorem fin_own2k {T : List Tk} {pid kid ver : Nat} {p' : PS} {nd : Nd} {st : St} {K : SV → St → Prop} {l : List SV} (hk : K (ndSV nd) (st.set pid (.cells (psL T p')))) (hnm : nd.names = []) (hl : ndOwn kid ver nd = l) {ex : St} :
    FinM st (LeK K) (.agg l) (st.set pid (.cells (psL T p')) ++ ex) := by
  rw [← hl]; exact fin_own hk hnm
theorem program_c {T : List Tk} (hT : T.length ≤ 100000) {pid : Nat} {e ty : PM Nd} (he : HC T pid 45 e) (hy : HC T pid 94 ty) : HC T pid 28 (progF T e ty) := by
  intro p r p' h K st hp hk
  refine acalls_leK (acalls_go_mod [] Tryz.func28 rfl Tryz.results28 Tryz.ntmps28 ?_)
  unfold progF at h
  simp only [Option.bind_eq_some_iff,Option.map_eq_some_iff,Prod.exists,Prod.mk.injEq] at h
  obtain ⟨t0,h1,n1,p1,h2,p2,h3,u,p3,h4,t9,h5,p4,h6,rfl,rfl⟩ := h
  simp only [go_sem]
  refine look_c h1 (psat_app hp) ?_
  simp only [go_sem]
  refine node_c rfl rfl rfl rfl (fun _ => rfl) (ids_slice (.inr rfl) (fun x hx => by cases hx)) ?_
  unfold ndFull
  simp only [go_sem]
  refine awp_ownC (st.length + 1) 5 6 0 (get_s1 1) (by simp) rfl ?_
  rw [set_s1]
  simp only [List.length_append,len_sx,List.length_cons,List.length_nil,List.set_cons_succ,List.set_cons_zero,List.append_assoc,List.cons_append,List.nil_append,Nat.zero_add,Nat.reduceAdd]
  refine awp_rounds [] (fun m env s => ∃ (nd : Nd) (q : PS) (k : Nat) (ex : St),progL T e ty m nd q = some (n1,p1) ∧ m + nd.kids.length ≤ T.length + 2 ∧ nd.names = [] ∧ env = [.ptr pid 0,.any,.ptr st.length 0,.ptr (st.length + 1) 0,.any,.any,.any,.any,.any,.any,.any,.any,.any,.any,.any,.any,.any,.any,.any,.any,.any,.any,.any,.any,.any,.any,.any,.any,.any,.any,.any,.any,.any,.any,.any,.any,.any,.any,.any,.any,.any,.any] ∧
    s = st.set pid (.cells (psL T q)) ++ (.cells zNd :: .cells (ndOwn (st.length + 2) k nd) :: .tok k :: ex)) (n := T.length + 2) ?_ ⟨_,_,0,[],h2,by simp [nodeF,Nd.kids],rfl,rfl,by rw [set_id hp]; rfl⟩ ?_
  · repeat (first | exact leEnv_nil | refine leEnv_any _ ?_ | refine leEnv_same _ ?_ | refine leEnv_norm _ ?_)
  rintro m env s ⟨nd,q,k,ex,hl,hm,hnm,rfl,rfl⟩
  cases m with
  | zero => cases hl
  | succ m =>
  simp only [progL,isF,Option.bind_eq_some_iff,Option.map_eq_some_iff] at hl
  obtain ⟨a,⟨t,h7,ha⟩,b,hb,hl⟩ := hl
  cases a with
  | true =>
    simp only [if_true,Option.some.injEq] at hb
    subst hb
    simp only [if_true,Option.bind_eq_some_iff,Prod.exists] at hl
    obtain ⟨q1,h8,x,q2,h9,hl⟩ := hl
    unfold ndOwn
    simp only [go_sem]
    refine is_c h7 (psat_seta hp) ?_
    simp only [go_sem,ha]
    first | (unfold ACallsH; simp only [put_some,put_none',ev_tmp,List.set_cons_succ,List.set_cons_zero,List.getD_cons_succ,List.getD_cons_zero]) | skip
    refine most_c (p' := q1) (n := nd.kids.length) (by simpa using h8) (psat_seta hp) fun _ => ?_
    simp only [go_sem,inS_get hp]
    refine awp_drawW [] [(0,[5]),(0,[5]),(0,[]),(3,[5]),(0,[]),(3,[7]),(0,[]),(1,[8])] Tryz.mixed rfl ?_
    simp only [go_sem,drawW_n,drawW_0,drawW_1,drawW_2,drawW_3,pend_n,pend_c,headD_c,isStore_s,zNd]
    refine ⟨_,_,decl_c hT he hy _ _ _ h9 _ _ (psat_seta hp) ⟨rfl,rfl⟩,?_⟩
    simp only [go_sem,drawW_n,drawW_0,drawW_1,drawW_2,drawW_3,pend_n,pend_c,headD_c,isStore_s,inS_get hp]
    rw [dk_eff]
    refine ⟨.slice .full 6 [ndSV x],?_,?_⟩
    · simp only [go_sem]
      exact ⟨⟨[],by simp⟩,ids_nds _ _ (.inr rfl) _ [_],.inl rfl⟩
    simp only [go_sem,drawW_n,drawW_0,drawW_1,drawW_2,drawW_3,pend_n,pend_c,headD_c,isStore_s]
    refine ⟨_,_,⟨Tryz.app6 (by omega),rfl,rfl⟩,?_⟩
    simp only [go_sem]
    refine ⟨m,_,by omega,?_,nd.addKid x,q2,k + 1,_,hl,by rw [ak_kids]; simp; omega,by rw [ak_names]; exact hnm,rfl,by rw [ak_kind,ak_text,ak_num,ak_pos,ak_kids,List.map_append]; rfl⟩
    repeat (first | exact leEnv_nil | refine leEnv_any _ ?_ | refine leEnv_same _ ?_ | refine leEnv_norm _ ?_)
  | false =>
    simp only [Bool.false_eq_true,if_false,Option.map_eq_some_iff] at hb
    obtain ⟨t',h7',hb⟩ := hb
    rw [h7] at h7'
    cases h7'
    cases b with
    | true =>
      simp only [if_true,Option.bind_eq_some_iff,Prod.exists] at hl
      obtain ⟨q1,h8,x,q2,h9,hl⟩ := hl
      unfold ndOwn
      simp only [go_sem]
      refine is_c h7 (psat_seta hp) ?_
      simp only [go_sem,ha]
      first | (unfold ACallsH; simp only [put_some,put_none',ev_tmp,List.set_cons_succ,List.set_cons_zero,List.getD_cons_succ,List.getD_cons_zero]) | skip
      refine is_c h7 (psat_seta hp) ?_
      simp only [go_sem,ha,hb]
      first | (unfold ACallsH; simp only [put_some,put_none',ev_tmp,List.set_cons_succ,List.set_cons_zero,List.getD_cons_succ,List.getD_cons_zero]) | skip
      refine most_c (p' := q1) (n := nd.kids.length) (by simpa using h8) (psat_seta hp) fun _ => ?_
      simp only [go_sem,inS_get hp]
      refine awp_drawW [] [(0,[5]),(0,[5]),(0,[]),(3,[5]),(0,[]),(3,[7]),(0,[]),(1,[8])] Tryz.mixed rfl ?_
      simp only [go_sem,drawW_n,drawW_0,drawW_1,drawW_2,drawW_3,pend_n,pend_c,headD_c,isStore_s,zNd]
      refine ⟨_,_,decl_c hT he hy _ _ _ h9 _ _ (psat_seta hp) ⟨rfl,rfl⟩,?_⟩
      simp only [go_sem,drawW_n,drawW_0,drawW_1,drawW_2,drawW_3,pend_n,pend_c,headD_c,isStore_s,inS_get hp]
      rw [dk_eff]
      refine ⟨.slice .full 6 [ndSV x],?_,?_⟩
      · simp only [go_sem]
        exact ⟨⟨[],by simp⟩,ids_nds _ _ (.inr rfl) _ [_],.inl rfl⟩
      simp only [go_sem,drawW_n,drawW_0,drawW_1,drawW_2,drawW_3,pend_n,pend_c,headD_c,isStore_s]
      refine ⟨_,_,⟨Tryz.app6 (by omega),rfl,rfl⟩,?_⟩
      simp only [go_sem]
      refine ⟨m,_,by omega,?_,nd.addKid x,q2,k + 1,_,hl,by rw [ak_kids]; simp; omega,by rw [ak_names]; exact hnm,rfl,by rw [ak_kind,ak_text,ak_num,ak_pos,ak_kids,List.map_append]; rfl⟩
      repeat (first | exact leEnv_nil | refine leEnv_any _ ?_ | refine leEnv_same _ ?_ | refine leEnv_norm _ ?_)
    | false =>
      simp only [Bool.false_eq_true,if_false,Option.some.injEq,Prod.mk.injEq] at hl
      obtain ⟨rfl,rfl⟩ := hl
      unfold ndOwn
      by_cases h0 : t9.kind = 0
      · have c1 : (t9.kind != 0) = false := by simp [h0]
        rw [if_neg (by simp [h0])] at h6
        cases h6
        simp only [go_sem]
        refine is_c h7 (psat_seta hp) ?_
        simp only [go_sem,ha]
        first | (unfold ACallsH; simp only [put_some,put_none',ev_tmp,List.set_cons_succ,List.set_cons_zero,List.getD_cons_succ,List.getD_cons_zero]) | skip
        refine is_c h7 (psat_seta hp) ?_
        simp only [go_sem,ha,hb]
        first | (unfold ACallsH; simp only [put_some,put_none',ev_tmp,List.set_cons_succ,List.set_cons_zero,List.getD_cons_succ,List.getD_cons_zero]) | skip
        refine must_c hT h3 (psat_seta hp) fun _ => ?_
        simp only [go_sem,inS_get hp]
        refine awp_drawW [] [(0,[5]),(0,[5]),(0,[]),(3,[5]),(0,[]),(3,[7]),(0,[]),(1,[8])] Tryz.mixed rfl ?_
        simp only [go_sem,drawW_n,drawW_0,drawW_1,drawW_2,drawW_3,pend_n,pend_c,headD_c,isStore_s,zNd]
        refine ⟨_,_,in_c he rfl h4 (psat_seta hp) ⟨rfl,rfl⟩,?_⟩
        simp only [go_sem,drawW_n,drawW_0,drawW_1,drawW_2,drawW_3,pend_n,pend_c,headD_c,isStore_s,inS_get hp]
        rw [dk_eff]
        refine ⟨.slice .full 6 [ndSV u],?_,?_⟩
        · simp only [go_sem]
          exact ⟨⟨[],by simp⟩,ids_nds _ _ (.inr rfl) _ [_],.inl rfl⟩
        simp only [go_sem,drawW_n,drawW_0,drawW_1,drawW_2,drawW_3,pend_n,pend_c,headD_c,isStore_s]
        refine ⟨_,_,⟨Tryz.app6 (by omega),rfl,rfl⟩,?_⟩
        simp only [go_sem]
        refine look_c h5 (psat_seta hp) ?_
        simp only [go_sem,inS_get hp,c1,zNd]
        exact fin_own2k hk (by rw [ak_names]; exact hnm) (kid := st.length + 2) (ver := k + 1) (by unfold ndOwn; simp [ak_kind,ak_text,ak_num,ak_pos,ak_kids])
      · have c1 : (t9.kind != 0) = true := by simp [h0]
        rw [if_pos h0] at h6
        simp only [go_sem]
        refine is_c h7 (psat_seta hp) ?_
        simp only [go_sem,ha]
        first | (unfold ACallsH; simp only [put_some,put_none',ev_tmp,List.set_cons_succ,List.set_cons_zero,List.getD_cons_succ,List.getD_cons_zero]) | skip
        refine is_c h7 (psat_seta hp) ?_
        simp only [go_sem,ha,hb]
        first | (unfold ACallsH; simp only [put_some,put_none',ev_tmp,List.set_cons_succ,List.set_cons_zero,List.getD_cons_succ,List.getD_cons_zero]) | skip
        refine must_c hT h3 (psat_seta hp) fun _ => ?_
        simp only [go_sem,inS_get hp]
        refine awp_drawW [] [(0,[5]),(0,[5]),(0,[]),(3,[5]),(0,[]),(3,[7]),(0,[]),(1,[8])] Tryz.mixed rfl ?_
        simp only [go_sem,drawW_n,drawW_0,drawW_1,drawW_2,drawW_3,pend_n,pend_c,headD_c,isStore_s,zNd]
        refine ⟨_,_,in_c he rfl h4 (psat_seta hp) ⟨rfl,rfl⟩,?_⟩
        simp only [go_sem,drawW_n,drawW_0,drawW_1,drawW_2,drawW_3,pend_n,pend_c,headD_c,isStore_s,inS_get hp]
        rw [dk_eff]
        refine ⟨.slice .full 6 [ndSV u],?_,?_⟩
        · simp only [go_sem]
          exact ⟨⟨[],by simp⟩,ids_nds _ _ (.inr rfl) _ [_],.inl rfl⟩
        simp only [go_sem,drawW_n,drawW_0,drawW_1,drawW_2,drawW_3,pend_n,pend_c,headD_c,isStore_s]
        refine ⟨_,_,⟨Tryz.app6 (by omega),rfl,rfl⟩,?_⟩
        simp only [go_sem]
        refine look_c h5 (psat_seta hp) ?_
        simp only [go_sem,inS_get hp,c1,zNd]
        first | (unfold ACallsH; simp only [put_some,put_none',ev_tmp,List.set_cons_succ,List.set_cons_zero,List.getD_cons_succ,List.getD_cons_zero]) | skip
        refine fail_c h6 (psat_seta hp) fun _ => ?_
        simp only [go_sem,inS_get hp,zNd]
        exact fin_own2k hk (by rw [ak_names]; exact hnm) (kid := st.length + 2) (ver := k + 1) (by unfold ndOwn; simp [ak_kind,ak_text,ak_num,ak_pos,ak_kids])
end Go.Proofs
