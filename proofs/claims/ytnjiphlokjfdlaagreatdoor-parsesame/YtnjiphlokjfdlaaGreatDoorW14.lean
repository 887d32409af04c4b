import Derived.Test.YtnjiphlokjfdlaaGreatDoorW13
set_option maxHeartbeats 4000000
set_option linter.unusedSimpArgs false
set_option linter.unusedVariables false
set_option maxRecDepth 8000
namespace Go.Proofs
open Go Go.AL
theorem app_c {T : List Tk} (hT : T.length ≤ 100000) {pid : Nat} {e pt : PM Nd} (he : HC T pid 45 e) (hpt : HC T pid 127 pt) : HC T pid 96 (appF T e pt) := by
  intro p r p' h K st hp hk
  unfold appF at h
  rw [Option.bind_eq_some_iff] at h
  obtain ⟨t,h1,h⟩ := h
  by_cases hc : t.kind = 6 ∧ 0 < (kindF t.text).1
  · rw [if_pos hc] at h
    exact appK_c hT he hpt h1 hc h hp hk
  · rw [if_neg hc] at h
    by_cases h4 : t.kind = 4
    · rw [show (t.kind == 4) = true by simp [h4]] at h
      exact appC_c hT he hpt h1 h4 h hp hk
    · rw [show (t.kind == 4) = false by simp [h4]] at h
      exact appA_c hT he hpt h1 hc h4 h hp hk
def HS (T : List Tk) (pid : Nat) (signs : List Tx) (e : PM Nd) : Prop := ∀ (p : PS) (r : Nd) (p' : PS),e p = some (r,p') → ∀ (K : SV → St → Prop) (st : St),PAt T pid p st → K (ndSV r) (st.set pid (.cells (psL T p'))) → ACalls Tryz.prog 81 [.ptr pid 0,.slice .full 1 (signs.map txSV)] K st
def HP (T : List Tk) (pid : Nat) (signs : List Tx) (e : PM Nd) : Prop := ∀ (p : PS) (r : Nd) (p' : PS),e p = some (r,p') → ∀ (K : SV → St → Prop) (st : St),PAt T pid p st → K (ndSV r) (st.set pid (.cells (psL T p'))) → ACalls Tryz.prog 95 [.ref [.slice .full 1 (signs.map txSV)],.ref [.ptr pid 0]] K st
def TokAt (st ex : St) (tid : Nat) (t : Tk) : Prop := ∃ j,tid = st.length + 2 + j ∧ ex[j]? = some (.cells (tkSV t).cells)
theorem tokAt_facts {st ex : St} {tid : Nat} {t : Tk} (h : TokAt st ex tid t) (pid : Nat) (X : Ob) (a b : Ob) : inS (st.set pid X ++ a :: b :: ex) tid = True ∧ isObj (st.set pid X ++ a :: b :: ex) tid = True ∧
    objAt (st.set pid X ++ a :: b :: ex) tid = [.sc (.int .i64 t.kind),.sc (.string (ba t.text)),.sc (.int .i64 t.num),.sc (.int .i64 t.pos)] := by
  obtain ⟨j,rfl,hj⟩ := h
  refine cells_facts ?_
  rw [List.getElem?_append_right (by simp; omega)]
  simp only [List.length_set,show st.length + 2 + j - st.length = j + 1 + 1 by omega,List.getElem?_cons_succ]
  exact hj
theorem sums_c {T : List Tk} (hT : T.length ≤ 100000) {pid : Nat} {signs : List Tx} (hs : signs.length ≤ 1000000) {part : PM Nd} (hpart : HP T pid signs part) : HS T pid signs (sumsF T part signs) := by
  intro p r p' h K st hp hk
  refine acalls_leK (acalls_go_mod [] Tryz.func81 rfl Tryz.results81 Tryz.ntmps81 ?_)
  unfold sumsF at h
  simp only [Option.bind_eq_some_iff,Prod.exists] at h
  obtain ⟨n0,p1,h1,t0,h2,h⟩ := h
  simp only [go_sem]
  refine hpart _ _ _ h1 _ _ (psat_app hp) ?_
  simp only [go_sem,inS_get hp]
  first | (unfold ACallsH; simp only [put_some,put_none',ev_tmp,List.set_cons_succ,List.set_cons_zero,List.getD_cons_succ,List.getD_cons_zero]) | skip
  refine look_c h2 (psat_seta hp) ?_
  simp only [go_sem,inS_get hp]
  refine awp_rounds [] (fun m env s => ∃ (t : Tk) (nd : Nd) (q : PS) (tid : Nat) (ex : St),sumsL T part signs m t nd q = some (r,p') ∧ TokAt st ex tid t ∧ env = [.any,.any,.ref [.ptr pid 0],.ref [.slice .full 1 (signs.map txSV)],.ptr st.length 0,.func (.func 95) [] [.ref [.slice .full 1 (signs.map txSV)],.ref [.ptr pid 0]],.ptr (st.length + 1) 0,.ptr tid 0,.any,.any,.any,.any,.any,.any,.any,.any,.any,.any,.any,.any,.any,.any,.any,.any,.any,.any,.any,.any,.any,.any,.any,.any,.any,.any,.any,.any,.any] ∧
    s = st.set pid (.cells (psL T q)) ++ (.cells zNd :: .cells (ndSV nd).cells :: ex)) (n := T.length + 2) ?_ ⟨t0,n0,_,st.length + 2,_,h,⟨0,rfl,rfl⟩,rfl,rfl⟩ ?_
  · repeat (first | exact leEnv_nil | refine leEnv_any _ ?_ | refine leEnv_same _ ?_ | refine leEnv_norm _ ?_)
  rintro m env s ⟨t,nd,q,tid,ex,hl,htok,rfl,rfl⟩
  cases m with
  | zero => cases hl
  | succ m =>
  simp only [sumsL] at hl
  have yt := tokAt_facts htok pid
  have y1 := fun X a b => (yt X a b).1
  have y2 := fun X a b => (yt X a b).2.1
  have y3 := fun X a b => (yt X a b).2.2
  by_cases hc : t.kind = 5
  · have c1 : (t.kind == 5) = true := by simp [hc]
    by_cases hm : t.text ∈ signs
    · have c2 : decide (t.text ∈ signs) = true := by simp [hm]
      rw [if_pos ⟨hc,hm⟩] at hl
      simp only [Option.bind_eq_some_iff,Prod.exists] at hl
      obtain ⟨t1,q1,h4,x,q2,h5,t2,h6,hl⟩ := hl
      simp only [go_sem,y1,y2,y3,c1]
      refine contains_c hs ?_
      simp only [go_sem,y1,y2,y3,c1,c2]
      first | (unfold ACallsH; simp only [put_some,put_none',ev_tmp,List.set_cons_succ,List.set_cons_zero,List.getD_cons_succ,List.getD_cons_zero]) | skip
      refine take_c hT h4 (psat_seta hp) ?_
      simp only [go_sem,inS_get hp,y1,y2,y3]
      refine awp_drawW [] [(0,[8]),(0,[8]),(0,[8]),(0,[8]),(0,[8]),(0,[]),(3,[8]),(0,[]),(3,[9]),(1,[10])] Tryz.mixed rfl ?_
      simp only [go_sem,drawW_n,drawW_0,drawW_1,drawW_2,drawW_3,pend_n,pend_c,headD_c,isStore_s,zNd,nd_drop3,y1,y2,y3]
      refine ⟨_,_,hpart _ _ _ h5 _ _ (psat_seta hp) ⟨rfl,rfl⟩,?_⟩
      simp only [go_sem,drawW_n,drawW_0,drawW_1,drawW_2,drawW_3,pend_n,pend_c,headD_c,isStore_s,inS_get hp,nd_drop3,y1,y2,y3]
      rw [dk_eff]
      refine ⟨.slice .full 6 [ndSV nd,ndSV x],?_,?_⟩
      · simp only [go_sem]
        exact ⟨⟨[],by simp⟩,ids_nds _ _ (.inr rfl) _ [_,_],.inl rfl⟩
      refine ⟨_,_,nodeN_c (kids := [nd,x]) (.inl rfl) ⟨rfl,rfl⟩,?_⟩
      simp only [go_sem,drawW_n,drawW_0,drawW_1,drawW_2,drawW_3,pend_n,pend_c,headD_c,isStore_s,inS_get hp,nd_drop6,List.append_nil,y1,y2,y3]
      refine look_c h6 (psat_seta hp) ?_
      simp only [go_sem,inS_get hp,y1,y2,y3]
      refine ⟨m,_,by omega,?_,t2,nodeF 13 nd.pos t.text [nd,x],q2,st.length + (ex.length + 2),_,hl,⟨ex.length,by omega,by simp; rfl⟩,rfl,rfl⟩
      repeat (first | exact leEnv_nil | refine leEnv_any _ ?_ | refine leEnv_same _ ?_ | refine leEnv_norm _ ?_)
    · have c2 : decide (t.text ∈ signs) = false := by simp [hm]
      rw [if_neg (fun h => hm h.2)] at hl
      simp only [Option.some.injEq,Prod.mk.injEq] at hl
      obtain ⟨rfl,rfl⟩ := hl
      unfold zNd
      simp only [go_sem,y1,y2,y3,c1]
      refine contains_c hs ?_
      simp only [go_sem,y1,y2,y3,c1,c2]
      exact fin_nd' hk
  · have c1 : (t.kind == 5) = false := by simp [hc]
    rw [if_neg (fun h => hc h.1)] at hl
    simp only [Option.some.injEq,Prod.mk.injEq] at hl
    obtain ⟨rfl,rfl⟩ := hl
    unfold zNd
    simp only [go_sem,y1,y2,y3,c1]
    exact fin_nd' hk
theorem partM_c {T : List Tk} {pid : Nat} {e : PM Nd} (he : HC T pid 96 e) : HP T pid signsM e := by
  intro p r p' h K st hp hk
  refine acalls_leK (acalls_go_mod [] Tryz.func95 rfl Tryz.results95 Tryz.ntmps95 ?_)
  unfold signsM txSV
  simp only [go_sem,List.map_cons,List.map_nil]
  refine ⟨by decide,fun _ => ?_,fun h => absurd h (by decide)⟩
  refine he _ _ _ h _ _ (psat_app hp) ?_
  simp only [go_sem,inS_get hp]
  exact fin_nd' hk
theorem partP_c {T : List Tk} {pid : Nat} {e : PM Nd} (he : HS T pid signsM e) : HP T pid signsP e := by
  intro p r p' h K st hp hk
  refine acalls_leK (acalls_go_mod [] Tryz.func95 rfl Tryz.results95 Tryz.ntmps95 ?_)
  unfold signsP txSV
  simp only [go_sem,List.map_cons,List.map_nil]
  refine ⟨by decide,fun h => absurd h (by decide),fun _ => ?_⟩
  refine he _ _ _ h _ _ (psat_app hp) ?_
  simp only [go_sem,inS_get hp]
  exact fin_nd' hk
theorem sum_c {T : List Tk} (hT : T.length ≤ 100000) {pid : Nat} {e pt : PM Nd} (he : HC T pid 45 e) (hpt : HC T pid 127 pt) : HS T pid signsP (sumF T e pt) :=
  sums_c hT (by decide) (partP_c (sums_c hT (by decide) (partM_c (app_c hT he hpt))))
theorem cmp_c {T : List Tk} (hT : T.length ≤ 100000) {pid : Nat} {e pt : PM Nd} (he : HC T pid 45 e) (hpt : HC T pid 127 pt) : HC T pid 66 (cmpF T e pt) := by
  intro p r p' h K st hp hk
  have hs := sum_c hT he hpt
  refine acalls_leK (acalls_go_mod [] Tryz.func66 rfl Tryz.results66 Tryz.ntmps66 ?_)
  unfold cmpF at h
  simp only [Option.bind_eq_some_iff,Prod.exists] at h
  obtain ⟨n0,p1,h1,t,h2,h⟩ := h
  cases b1 : isT t [61] with
  | true =>
    rw [if_pos (.inl b1)] at h
    simp only [Option.bind_eq_some_iff,Option.map_eq_some_iff,Prod.exists,Prod.mk.injEq] at h
    obtain ⟨t1,p2,h3,x,p3,h4,rfl,rfl⟩ := h
    simp only [go_sem]
    refine hs _ _ _ h1 _ _ (psat_app hp) ?_
    simp only [go_sem,inS_get hp]
    first | (unfold ACallsH; simp only [put_some,put_none',ev_tmp,List.set_cons_succ,List.set_cons_zero,List.getD_cons_succ,List.getD_cons_zero]) | skip
    refine look_c h2 (psat_seta hp) ?_
    simp only [go_sem,inS_get hp]
    first | (unfold ACallsH; simp only [put_some,put_none',ev_tmp,List.set_cons_succ,List.set_cons_zero,List.getD_cons_succ,List.getD_cons_zero]) | skip
    refine is_c h2 (psat_seta hp) ?_
    simp only [go_sem,inS_get hp,b1]
    first | (unfold ACallsH; simp only [put_some,put_none',ev_tmp,List.set_cons_succ,List.set_cons_zero,List.getD_cons_succ,List.getD_cons_zero]) | skip
    refine take_c hT h3 (psat_seta hp) ?_
    simp only [go_sem,inS_get hp]
    refine awp_drawW [] [(0,[9]),(0,[9]),(0,[9]),(0,[9]),(0,[9]),(0,[]),(0,[]),(3,[9]),(0,[]),(3,[10]),(1,[11])] Tryz.mixed rfl ?_
    simp only [go_sem,drawW_n,drawW_0,drawW_1,drawW_2,drawW_3,pend_n,pend_c,headD_c,isStore_s,nd_drop3]
    rw [dk_eff]
    refine ⟨.slice .full 1 (signsP.map txSV),?_,?_⟩
    · simp only [go_sem]
      exact ⟨⟨[],by simp⟩,ids_txs _ _ (.inr rfl) _ _,.inl rfl⟩
    refine ⟨_,_,hs _ _ _ h4 _ _ (psat_seta hp) ⟨rfl,rfl⟩,?_⟩
    simp only [go_sem,drawW_n,drawW_0,drawW_1,drawW_2,drawW_3,pend_n,pend_c,headD_c,isStore_s,inS_get hp,nd_drop3]
    rw [dk_eff]
    refine ⟨.slice .full 6 [ndSV n0,ndSV x],?_,?_⟩
    · simp only [go_sem]
      exact ⟨⟨[],by simp⟩,ids_nds _ _ (.inr rfl) _ [_,_],.inl rfl⟩
    refine ⟨_,_,nodeN_c (kids := [n0,x]) (.inl rfl) ⟨rfl,rfl⟩,?_⟩
    simp only [go_sem,drawW_n,drawW_0,drawW_1,drawW_2,drawW_3,pend_n,pend_c,headD_c,isStore_s,inS_get hp]
    exact fin_nd' hk
  | false =>
  cases b2 : isT t [60] with
  | true =>
    rw [if_pos (.inr b2)] at h
    simp only [Option.bind_eq_some_iff,Option.map_eq_some_iff,Prod.exists,Prod.mk.injEq] at h
    obtain ⟨t1,p2,h3,x,p3,h4,rfl,rfl⟩ := h
    simp only [go_sem]
    refine hs _ _ _ h1 _ _ (psat_app hp) ?_
    simp only [go_sem,inS_get hp]
    first | (unfold ACallsH; simp only [put_some,put_none',ev_tmp,List.set_cons_succ,List.set_cons_zero,List.getD_cons_succ,List.getD_cons_zero]) | skip
    refine look_c h2 (psat_seta hp) ?_
    simp only [go_sem,inS_get hp]
    first | (unfold ACallsH; simp only [put_some,put_none',ev_tmp,List.set_cons_succ,List.set_cons_zero,List.getD_cons_succ,List.getD_cons_zero]) | skip
    refine is_c h2 (psat_seta hp) ?_
    simp only [go_sem,inS_get hp,b1]
    first | (unfold ACallsH; simp only [put_some,put_none',ev_tmp,List.set_cons_succ,List.set_cons_zero,List.getD_cons_succ,List.getD_cons_zero]) | skip
    refine is_c h2 (psat_seta hp) ?_
    simp only [go_sem,inS_get hp,b1,b2]
    first | (unfold ACallsH; simp only [put_some,put_none',ev_tmp,List.set_cons_succ,List.set_cons_zero,List.getD_cons_succ,List.getD_cons_zero]) | skip
    refine take_c hT h3 (psat_seta hp) ?_
    simp only [go_sem,inS_get hp]
    refine awp_drawW [] [(0,[9]),(0,[9]),(0,[9]),(0,[9]),(0,[9]),(0,[]),(0,[]),(3,[9]),(0,[]),(3,[10]),(1,[11])] Tryz.mixed rfl ?_
    simp only [go_sem,drawW_n,drawW_0,drawW_1,drawW_2,drawW_3,pend_n,pend_c,headD_c,isStore_s,nd_drop3]
    rw [dk_eff]
    refine ⟨.slice .full 1 (signsP.map txSV),?_,?_⟩
    · simp only [go_sem]
      exact ⟨⟨[],by simp⟩,ids_txs _ _ (.inr rfl) _ _,.inl rfl⟩
    refine ⟨_,_,hs _ _ _ h4 _ _ (psat_seta hp) ⟨rfl,rfl⟩,?_⟩
    simp only [go_sem,drawW_n,drawW_0,drawW_1,drawW_2,drawW_3,pend_n,pend_c,headD_c,isStore_s,inS_get hp,nd_drop3]
    rw [dk_eff]
    refine ⟨.slice .full 6 [ndSV n0,ndSV x],?_,?_⟩
    · simp only [go_sem]
      exact ⟨⟨[],by simp⟩,ids_nds _ _ (.inr rfl) _ [_,_],.inl rfl⟩
    refine ⟨_,_,nodeN_c (kids := [n0,x]) (.inl rfl) ⟨rfl,rfl⟩,?_⟩
    simp only [go_sem,drawW_n,drawW_0,drawW_1,drawW_2,drawW_3,pend_n,pend_c,headD_c,isStore_s,inS_get hp]
    exact fin_nd' hk
  | false =>
    rw [if_neg (by simp [b1,b2])] at h
    simp only [Option.some.injEq,Prod.mk.injEq] at h
    obtain ⟨rfl,rfl⟩ := h
    simp only [go_sem]
    refine hs _ _ _ h1 _ _ (psat_app hp) ?_
    simp only [go_sem,inS_get hp]
    first | (unfold ACallsH; simp only [put_some,put_none',ev_tmp,List.set_cons_succ,List.set_cons_zero,List.getD_cons_succ,List.getD_cons_zero]) | skip
    refine look_c h2 (psat_seta hp) ?_
    simp only [go_sem,inS_get hp]
    first | (unfold ACallsH; simp only [put_some,put_none',ev_tmp,List.set_cons_succ,List.set_cons_zero,List.getD_cons_succ,List.getD_cons_zero]) | skip
    refine is_c h2 (psat_seta hp) ?_
    simp only [go_sem,inS_get hp,b1]
    first | (unfold ACallsH; simp only [put_some,put_none',ev_tmp,List.set_cons_succ,List.set_cons_zero,List.getD_cons_succ,List.getD_cons_zero]) | skip
    refine is_c h2 (psat_seta hp) ?_
    simp only [go_sem,inS_get hp,b1,b2]
    exact fin_nd' hk
end Go.Proofs
