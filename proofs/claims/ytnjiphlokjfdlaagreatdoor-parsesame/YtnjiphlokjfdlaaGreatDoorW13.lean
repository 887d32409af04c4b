import Derived.Test.YtnjiphlokjfdlaaGreatDoorW12
set_option maxHeartbeats 4000000
set_option linter.unusedSimpArgs false
set_option linter.unusedVariables false
set_option maxRecDepth 8000
namespace Go.Proofs
open Go Go.AL
theorem kind2 (s : Tx) : ∃ n : Nat,(kindF s).2 = n ∧ n ≤ 2 := by
  unfold kindF
  repeat (first | split | exact ⟨1,rfl,by omega⟩ | exact ⟨2,rfl,by omega⟩ | exact ⟨0,rfl,by omega⟩)
theorem appK_c {T : List Tk} (hT : T.length ≤ 100000) {pid : Nat} {e pt : PM Nd} (he : HC T pid 45 e) (hpt : HC T pid 127 pt) {p p' : PS} {t : Tk} {r : Nd} (h1 : lookF T p = some t) (hc : t.kind = 6 ∧ 0 < (kindF t.text).1)
    (h : ((takeF T p).bind fun r => atomsL T e pt (kindF t.text).2.toNat (nodeF (kindF t.text).1 t.pos [] []) r.2) = some (r,p')) {K : SV → St → Prop} {st : St} (hp : PAt T pid p st) (hk : K (ndSV r) (st.set pid (.cells (psL T p')))) : ACalls Tryz.prog 96 [.ptr pid 0] K st := by
  obtain ⟨many,hm1,hm2⟩ := kind2 t.text
  rw [hm1] at h
  simp only [Option.bind_eq_some_iff,Prod.exists,Int.toNat_natCast] at h
  obtain ⟨t1,p1,h2,h⟩ := h
  have c1 : (t.kind == 6) = true := by simp [hc.1]
  have c2 : decide (0 < (kindF t.text).1) = true := by simp [hc.2]
  refine acalls_leK (acalls_go_mod [] Tryz.func96 rfl Tryz.results96 Tryz.ntmps96 ?_)
  simp only [go_sem]
  refine look_c h1 (psat_app hp) ?_
  simp only [go_sem]
  refine kind_c ?_
  simp only [go_sem,c1,c2,gt_iff_lt,hm1]
  first | (unfold ACallsH; simp only [put_some,put_none',ev_tmp,List.set_cons_succ,List.set_cons_zero,List.getD_cons_succ,List.getD_cons_zero]) | skip
  refine take_c hT h2 (psat_app hp) ?_
  simp only [go_sem,inS_get hp]
  first | (unfold ACallsH; simp only [put_some,put_none',ev_tmp,List.set_cons_succ,List.set_cons_zero,List.getD_cons_succ,List.getD_cons_zero]) | skip
  refine node_c rfl rfl rfl rfl (fun _ => rfl) (ids_slice (.inr rfl) (fun x hx => by cases hx)) ?_
  unfold ndFull
  simp only [go_sem,inS_get hp]
  refine awp_ownC (st.length + 2) 5 6 0 (get_sx 2) (by simp) rfl ?_
  rw [set_sx]
  simp only [List.length_append,len_sx,List.length_cons,List.length_nil,List.set_cons_succ,List.set_cons_zero,List.append_assoc,List.cons_append,List.nil_append,Nat.zero_add,Nat.reduceAdd]
  refine awp_rounds [] (fun m env s => ∃ (nd : Nd) (q : PS) (k j : Nat) (b : Ob) (ex : St),atomsL T e pt m nd q = some (r,p') ∧ j + m = many ∧ nd.kids.length ≤ j ∧ nd.names = [] ∧ env = [.ptr pid 0,.any,.ptr st.length 0,.any,.any,.any,.ptr (st.length + 2) 0,.any,.any,.any,.any,.any,.any,.any,.any,.any,.any,.any,.any,.any,.any,.any,.any,.any,.any,.any,.any,.any,.any,.any,.sc (.int .i64 (kindF t.text).2),.sc (.int .i64 j),.any,.any,.any,.any,.any,.any,.any,.any,.any,.any,.any,.any,.any,.any,.any,.any,.any,.any,.any,.any,.any,.any,.any,.any,.any,.any,.any,.any,.any,.any,.any,.any,.any,.any,.any,.any,.any,.any] ∧
    s = st.set pid (.cells (psL T q)) ++ (.cells zNd :: b :: .cells (ndOwn (st.length + 3) k nd) :: .tok k :: ex)) (n := many) ?_ ⟨_,_,0,0,_,[],h,by omega,by simp [nodeF,Nd.kids],rfl,rfl,rfl⟩ ?_
  · repeat (first | exact leEnv_nil | refine leEnv_any _ ?_ | refine leEnv_same _ ?_ | refine leEnv_norm _ ?_)
  rintro m env s ⟨nd,q,k,j,b,ex,hl,hm,hkn,hnm,rfl,rfl⟩
  cases m with
  | zero =>
    have c3 : decide ((j : Int) < (kindF t.text).2) = false := by rw [hm1]; simp; omega
    cases hl
    unfold ndOwn zNd
    simp only [go_sem,c3]
    exact fin_own hk hnm
  | succ m =>
    have c3 : decide ((j : Int) < (kindF t.text).2) = true := by rw [hm1]; simp; omega
    have hw : IntKind.i64.wrap ((j : Int) + 1) = ((j + 1 : Nat) : Int) := by rw [IntWalk.i64_in _ (by omega)]; rfl
    simp only [atomsL,Option.bind_eq_some_iff,Prod.exists] at hl
    obtain ⟨x,q1,h4,hl⟩ := hl
    unfold ndOwn
    simp only [go_sem,c3]
    refine awp_drawW [] [(0,[5]),(0,[5]),(0,[]),(3,[5]),(0,[]),(3,[7]),(0,[]),(1,[8])] Tryz.mixed rfl ?_
    simp only [go_sem,drawW_n,drawW_0,drawW_1,drawW_2,drawW_3,pend_n,pend_c,headD_c,isStore_s,zNd]
    refine ⟨_,_,atom_c hT he hpt _ _ _ h4 _ _ (psat_seta hp) ⟨rfl,rfl⟩,?_⟩
    simp only [go_sem,drawW_n,drawW_0,drawW_1,drawW_2,drawW_3,pend_n,pend_c,headD_c,isStore_s,inS_get hp]
    rw [dk_eff]
    refine ⟨.slice .full 6 [ndSV x],?_,?_⟩
    · simp only [go_sem]
      exact ⟨⟨[],by simp⟩,ids_nds _ _ (.inr rfl) _ [_],.inl rfl⟩
    simp only [go_sem,drawW_n,drawW_0,drawW_1,drawW_2,drawW_3,pend_n,pend_c,headD_c,isStore_s]
    refine ⟨_,_,⟨Tryz.app6 (by omega),rfl,rfl⟩,?_⟩
    simp only [go_sem,hw]
    refine ⟨m,_,by omega,?_,nd.addKid x,q1,k + 1,j + 1,b,_,hl,by omega,by rw [ak_kids]; simp; omega,by rw [ak_names]; exact hnm,rfl,by rw [ak_kind,ak_text,ak_num,ak_pos,ak_kids,List.map_append]; rfl⟩
    repeat (first | exact leEnv_nil | refine leEnv_any _ ?_ | refine leEnv_same _ ?_ | refine leEnv_norm _ ?_)
theorem con_is {t : Tk} (h : t.kind = 4) (s : Tx) : isT t s = false := by
  unfold isT; simp [h]
theorem appC_c {T : List Tk} (hT : T.length ≤ 100000) {pid : Nat} {e pt : PM Nd} (he : HC T pid 45 e) (hpt : HC T pid 127 pt) {p p' : PS} {t0 : Tk} {r : Nd} (h1 : lookF T p = some t0) (hc : t0.kind = 4)
    (h : ((atomF T e pt p).bind fun r => appL T e pt (T.length + 2) true r.1 r.2) = some (r,p')) {K : SV → St → Prop} {st : St} (hp : PAt T pid p st) (hk : K (ndSV r) (st.set pid (.cells (psL T p')))) : ACalls Tryz.prog 96 [.ptr pid 0] K st := by
  simp only [Option.bind_eq_some_iff,Prod.exists] at h
  obtain ⟨n0,p1,h2,h⟩ := h
  have hl0 : leafF T [(1,1),(2,2),(3,4),(4,5)] p = some (n0,p1) := by
    unfold atomF at h2
    rw [h1] at h2
    simp only [Option.bind_some,con_is hc,Bool.false_eq_true,if_false] at h2
    exact h2
  have hnm0 := leaf_names hl0
  have c1 : (t0.kind == 6) = false := by simp [hc]
  have c0 : (t0.kind == 4) = true := by simp [hc]
  refine acalls_leK (acalls_go_mod [] Tryz.func96 rfl Tryz.results96 Tryz.ntmps96 ?_)
  simp only [go_sem]
  refine look_c h1 (psat_app hp) ?_
  simp only [go_sem]
  refine kind_c ?_
  simp only [go_sem,c1]
  first | (unfold ACallsH; simp only [put_some,put_none',ev_tmp,List.set_cons_succ,List.set_cons_zero,List.getD_cons_succ,List.getD_cons_zero]) | skip
  refine atomE_c hT h1 (con_is hc _) (con_is hc _) (con_is hc _) (con_is hc _) hl0 (psat_app hp) ?_
  rw [ndE_eq hnm0]
  simp only [go_sem,inS_get hp]
  refine awp_ownC (st.length + 2) 5 6 0 (get_sx 2) (by simp) rfl ?_
  rw [set_sx]
  simp only [List.length_append,len_sx,List.length_cons,List.length_nil,List.set_cons_succ,List.set_cons_zero,List.append_assoc,List.cons_append,List.nil_append,Nat.zero_add,Nat.reduceAdd]
  refine awp_rounds [] (fun m env s => ∃ (nd : Nd) (q : PS) (k : Nat) (b : Ob) (ex : St),appL T e pt m true nd q = some (r,p') ∧ m + nd.kids.length ≤ T.length + 2 ∧ nd.names = [] ∧ env = [.ptr pid 0,.any,.ptr st.length 0,.any,.any,.any,.any,.ptr (st.length + 2) 0,.sc (.bool (t0.kind == 4)),.any,.any,.any,.any,.any,.any,.any,.any,.any,.any,.any,.any,.any,.any,.any,.any,.any,.any,.any,.any,.any,.any,.any,.any,.any,.any,.any,.any,.any,.any,.any,.any,.any,.any,.any,.any,.any,.any,.any,.any,.any,.any,.any,.any,.any,.any,.any,.any,.any,.any,.any,.any,.any,.any,.any,.any,.any,.any,.any,.any,.any] ∧
    s = st.set pid (.cells (psL T q)) ++ (.cells zNd :: b :: .cells (ndOwn (st.length + 3) k nd) :: .tok k :: ex)) (n := T.length + 2) ?_ ⟨n0,_,0,_,[],h,by rw [hnm0.2]; simp,hnm0.1,rfl,by unfold ndOwn; rw [hnm0.2]; rfl⟩ ?_
  · repeat (first | exact leEnv_nil | refine leEnv_any _ ?_ | refine leEnv_same _ ?_ | refine leEnv_norm _ ?_)
  rintro m env s ⟨nd,q,k,b,ex,hl,hm,hnm,rfl,rfl⟩
  cases m with
  | zero => cases hl
  | succ m =>
  simp only [appL,Option.bind_eq_some_iff] at hl
  obtain ⟨t,ht,hl⟩ := hl
  cases hb : beginsT t with
  | false =>
    rw [hb] at hl
    simp only [Bool.false_eq_true,if_false,Option.some.injEq,Prod.mk.injEq] at hl
    obtain ⟨rfl,rfl⟩ := hl
    unfold ndOwn zNd
    simp only [go_sem]
    refine begins_c ht (psat_seta hp) ?_
    simp only [go_sem,hb]
    exact fin_own hk hnm
  | true =>
    rw [hb] at hl
    simp only [if_true,Option.bind_eq_some_iff,Prod.exists] at hl
    obtain ⟨q1,h3,x,q2,h4,hl⟩ := hl
    unfold ndOwn
    simp only [go_sem]
    refine begins_c ht (psat_seta hp) ?_
    simp only [go_sem,hb,c0]
    refine most_c (p' := q1) (n := nd.kids.length) (by simpa using h3) (psat_seta hp) fun _ => ?_
    simp only [go_sem,inS_get hp]
    refine awp_drawW [] [(0,[5]),(0,[5]),(0,[]),(3,[5]),(0,[]),(3,[7]),(0,[]),(1,[8])] Tryz.mixed rfl ?_
    simp only [go_sem,drawW_n,drawW_0,drawW_1,drawW_2,drawW_3,pend_n,pend_c,headD_c,isStore_s,zNd]
    refine ⟨_,_,atom_c hT he hpt _ _ _ h4 _ _ (psat_seta hp) ⟨rfl,rfl⟩,?_⟩
    simp only [go_sem,drawW_n,drawW_0,drawW_1,drawW_2,drawW_3,pend_n,pend_c,headD_c,isStore_s,inS_get hp]
    rw [dk_eff]
    refine ⟨.slice .full 6 [ndSV x],?_,?_⟩
    · simp only [go_sem]
      exact ⟨⟨[],by simp⟩,ids_nds _ _ (.inr rfl) _ [_],.inl rfl⟩
    simp only [go_sem,drawW_n,drawW_0,drawW_1,drawW_2,drawW_3,pend_n,pend_c,headD_c,isStore_s]
    refine ⟨_,_,⟨Tryz.app6 (by omega),rfl,rfl⟩,?_⟩
    simp only [go_sem]
    refine ⟨m,_,by omega,?_,nd.addKid x,q2,k + 1,b,_,hl,by rw [ak_kids]; simp; omega,by rw [ak_names]; exact hnm,rfl,by rw [ak_kind,ak_text,ak_num,ak_pos,ak_kids,List.map_append]; rfl⟩
    repeat (first | exact leEnv_nil | refine leEnv_any _ ?_ | refine leEnv_same _ ?_ | refine leEnv_norm _ ?_)
theorem nd_drop6 (n : Nd) : List.drop 6 (ndSV n).cells = [] := by rw [cells_nd]; rfl
theorem nd_drop3 (n : Nd) : List.drop 3 (ndSV n).cells = [.sc (.int .i64 n.pos),.slice .imm 1 (n.names.map txSV),.slice .imm 6 (n.kids.map ndSV)] := by rw [cells_nd]; rfl
theorem appA_c {T : List Tk} (hT : T.length ≤ 100000) {pid : Nat} {e pt : PM Nd} (he : HC T pid 45 e) (hpt : HC T pid 127 pt) {p p' : PS} {t0 : Tk} {r : Nd} (h1 : lookF T p = some t0) (hc : ¬ (t0.kind = 6 ∧ 0 < (kindF t0.text).1)) (hc4 : ¬ t0.kind = 4)
    (h : ((atomF T e pt p).bind fun r => appL T e pt (T.length + 2) false r.1 r.2) = some (r,p')) {K : SV → St → Prop} {st : St} (hp : PAt T pid p st) (hk : K (ndSV r) (st.set pid (.cells (psL T p')))) : ACalls Tryz.prog 96 [.ptr pid 0] K st := by
  simp only [Option.bind_eq_some_iff,Prod.exists] at h
  obtain ⟨n0,p1,h2,h⟩ := h
  have c0 : (t0.kind == 4) = false := by simp [hc4]
  refine acalls_leK (acalls_go_mod [] Tryz.func96 rfl Tryz.results96 Tryz.ntmps96 ?_)
  by_cases h6 : t0.kind = 6
  · have c1 : (t0.kind == 6) = true := by simp [h6]
    have c2 : decide (0 < (kindF t0.text).1) = false := by simp; exact Int.not_lt.1 fun h => hc ⟨h6,h⟩
    simp only [go_sem]
    refine look_c h1 (psat_app hp) ?_
    simp only [go_sem]
    refine kind_c ?_
    simp only [go_sem,c1,c2,gt_iff_lt]
    first | (unfold ACallsH; simp only [put_some,put_none',ev_tmp,List.set_cons_succ,List.set_cons_zero,List.getD_cons_succ,List.getD_cons_zero]) | skip
    refine atom_c hT he hpt _ _ _ h2 _ _ (psat_app hp) ?_
    simp only [go_sem,inS_get hp]
    refine awp_rounds [] (fun m env s => ∃ (nd : Nd) (q : PS) (b : Ob) (ex : St),appL T e pt m false nd q = some (r,p') ∧ env = [.ptr pid 0,.any,.ptr st.length 0,.any,.any,.any,.any,.ptr (st.length + 2) 0,.sc (.bool (t0.kind == 4)),.any,.any,.any,.any,.any,.any,.any,.any,.any,.any,.any,.any,.any,.any,.any,.any,.any,.any,.any,.any,.any,.any,.any,.any,.any,.any,.any,.any,.any,.any,.any,.any,.any,.any,.any,.any,.any,.any,.any,.any,.any,.any,.any,.any,.any,.any,.any,.any,.any,.any,.any,.any,.any,.any,.any,.any,.any,.any,.any,.any,.any] ∧
      s = st.set pid (.cells (psL T q)) ++ (.cells zNd :: b :: .cells (ndSV nd).cells :: ex)) (n := T.length + 2) ?_ ⟨n0,_,_,[],h,rfl,rfl⟩ ?_
    · repeat (first | exact leEnv_nil | refine leEnv_any _ ?_ | refine leEnv_same _ ?_ | refine leEnv_norm _ ?_)
    rintro m env s ⟨nd,q,b,ex,hl,rfl,rfl⟩
    cases m with
    | zero => cases hl
    | succ m =>
    simp only [appL,Option.bind_eq_some_iff] at hl
    obtain ⟨t,ht,hl⟩ := hl
    cases hb : beginsT t with
    | false =>
      rw [hb] at hl
      simp only [Bool.false_eq_true,if_false,Option.some.injEq,Prod.mk.injEq] at hl
      obtain ⟨rfl,rfl⟩ := hl
      unfold zNd
      simp only [go_sem]
      refine begins_c ht (psat_seta hp) ?_
      simp only [go_sem,hb]
      exact fin_nd' hk
    | true =>
      rw [hb] at hl
      simp only [if_true,Bool.false_eq_true,if_false,Option.bind_eq_some_iff,Prod.exists] at hl
      obtain ⟨x,q2,h4,hl⟩ := hl
      simp only [go_sem]
      refine begins_c ht (psat_seta hp) ?_
      simp only [go_sem,hb,c0]
      refine awp_drawW [] [(0,[6]),(0,[6]),(0,[6]),(0,[]),(3,[6]),(0,[]),(3,[7]),(1,[8])] Tryz.mixed rfl ?_
      simp only [go_sem,drawW_n,drawW_0,drawW_1,drawW_2,drawW_3,pend_n,pend_c,headD_c,isStore_s,zNd,nd_drop3]
      refine ⟨_,_,atom_c hT he hpt _ _ _ h4 _ _ (psat_seta hp) ⟨rfl,rfl⟩,?_⟩
      simp only [go_sem,drawW_n,drawW_0,drawW_1,drawW_2,drawW_3,pend_n,pend_c,headD_c,isStore_s,inS_get hp,nd_drop3]
      rw [dk_eff]
      refine ⟨.slice .full 6 [ndSV nd,ndSV x],?_,?_⟩
      · simp only [go_sem]
        exact ⟨⟨[],by simp⟩,ids_nds _ _ (.inr rfl) _ [_,_],.inl rfl⟩
      refine ⟨_,_,nodeN_c (kids := [nd,x]) (.inl rfl) ⟨rfl,rfl⟩,?_⟩
      simp only [go_sem,drawW_n,drawW_0,drawW_1,drawW_2,drawW_3,pend_n,pend_c,headD_c,isStore_s,inS_get hp,nd_drop6,List.append_nil]
      refine ⟨m,_,by omega,?_,nodeF 7 nd.pos [] [nd,x],q2,b,_,hl,rfl,rfl⟩
      simp only [c0]
      repeat (first | exact leEnv_nil | refine leEnv_any _ ?_ | refine leEnv_same _ ?_ | refine leEnv_norm _ ?_)
  · have c1 : (t0.kind == 6) = false := by simp [h6]
    simp only [go_sem]
    refine look_c h1 (psat_app hp) ?_
    simp only [go_sem]
    refine kind_c ?_
    simp only [go_sem,c1]
    first | (unfold ACallsH; simp only [put_some,put_none',ev_tmp,List.set_cons_succ,List.set_cons_zero,List.getD_cons_succ,List.getD_cons_zero]) | skip
    refine atom_c hT he hpt _ _ _ h2 _ _ (psat_app hp) ?_
    simp only [go_sem,inS_get hp]
    refine awp_rounds [] (fun m env s => ∃ (nd : Nd) (q : PS) (b : Ob) (ex : St),appL T e pt m false nd q = some (r,p') ∧ env = [.ptr pid 0,.any,.ptr st.length 0,.any,.any,.any,.any,.ptr (st.length + 2) 0,.sc (.bool (t0.kind == 4)),.any,.any,.any,.any,.any,.any,.any,.any,.any,.any,.any,.any,.any,.any,.any,.any,.any,.any,.any,.any,.any,.any,.any,.any,.any,.any,.any,.any,.any,.any,.any,.any,.any,.any,.any,.any,.any,.any,.any,.any,.any,.any,.any,.any,.any,.any,.any,.any,.any,.any,.any,.any,.any,.any,.any,.any,.any,.any,.any,.any,.any] ∧
      s = st.set pid (.cells (psL T q)) ++ (.cells zNd :: b :: .cells (ndSV nd).cells :: ex)) (n := T.length + 2) ?_ ⟨n0,_,_,[],h,rfl,rfl⟩ ?_
    · repeat (first | exact leEnv_nil | refine leEnv_any _ ?_ | refine leEnv_same _ ?_ | refine leEnv_norm _ ?_)
    rintro m env s ⟨nd,q,b,ex,hl,rfl,rfl⟩
    cases m with
    | zero => cases hl
    | succ m =>
    simp only [appL,Option.bind_eq_some_iff] at hl
    obtain ⟨t,ht,hl⟩ := hl
    cases hb : beginsT t with
    | false =>
      rw [hb] at hl
      simp only [Bool.false_eq_true,if_false,Option.some.injEq,Prod.mk.injEq] at hl
      obtain ⟨rfl,rfl⟩ := hl
      unfold zNd
      simp only [go_sem]
      refine begins_c ht (psat_seta hp) ?_
      simp only [go_sem,hb]
      exact fin_nd' hk
    | true =>
      rw [hb] at hl
      simp only [if_true,Bool.false_eq_true,if_false,Option.bind_eq_some_iff,Prod.exists] at hl
      obtain ⟨x,q2,h4,hl⟩ := hl
      simp only [go_sem]
      refine begins_c ht (psat_seta hp) ?_
      simp only [go_sem,hb,c0]
      refine awp_drawW [] [(0,[6]),(0,[6]),(0,[6]),(0,[]),(3,[6]),(0,[]),(3,[7]),(1,[8])] Tryz.mixed rfl ?_
      simp only [go_sem,drawW_n,drawW_0,drawW_1,drawW_2,drawW_3,pend_n,pend_c,headD_c,isStore_s,zNd,nd_drop3]
      refine ⟨_,_,atom_c hT he hpt _ _ _ h4 _ _ (psat_seta hp) ⟨rfl,rfl⟩,?_⟩
      simp only [go_sem,drawW_n,drawW_0,drawW_1,drawW_2,drawW_3,pend_n,pend_c,headD_c,isStore_s,inS_get hp,nd_drop3]
      rw [dk_eff]
      refine ⟨.slice .full 6 [ndSV nd,ndSV x],?_,?_⟩
      · simp only [go_sem]
        exact ⟨⟨[],by simp⟩,ids_nds _ _ (.inr rfl) _ [_,_],.inl rfl⟩
      refine ⟨_,_,nodeN_c (kids := [nd,x]) (.inl rfl) ⟨rfl,rfl⟩,?_⟩
      simp only [go_sem,drawW_n,drawW_0,drawW_1,drawW_2,drawW_3,pend_n,pend_c,headD_c,isStore_s,inS_get hp,nd_drop6,List.append_nil]
      refine ⟨m,_,by omega,?_,nodeF 7 nd.pos [] [nd,x],q2,b,_,hl,rfl,rfl⟩
      simp only [c0]
      repeat (first | exact leEnv_nil | refine leEnv_any _ ?_ | refine leEnv_same _ ?_ | refine leEnv_norm _ ?_)
end Go.Proofs
