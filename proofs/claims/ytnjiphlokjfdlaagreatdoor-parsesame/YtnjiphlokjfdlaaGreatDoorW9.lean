import Derived.Test.YtnjiphlokjfdlaaGreatDoorW7
import Derived.Test.YtnjiphlokjfdlaaGreatDoorM9
import Derived.Test.YtnjiphlokjfdlaaGreatDoorA9
set_option maxHeartbeats 4000000
set_option linter.unusedSimpArgs false
set_option linter.unusedVariables false
set_option maxRecDepth 8000
namespace Go.AL
theorem ak2_kind (n : Nd) (c : List Nd) : (n.addKids c).kind = n.kind := by cases n; rfl
theorem ak2_text (n : Nd) (c : List Nd) : (n.addKids c).text = n.text := by cases n; rfl
theorem ak2_num (n : Nd) (c : List Nd) : (n.addKids c).num = n.num := by cases n; rfl
theorem ak2_pos (n : Nd) (c : List Nd) : (n.addKids c).pos = n.pos := by cases n; rfl
theorem ak2_names (n : Nd) (c : List Nd) : (n.addKids c).names = n.names := by cases n; rfl
theorem ak2_kids (n : Nd) (c : List Nd) : (n.addKids c).kids = n.kids ++ c := by cases n; rfl
end Go.AL
namespace Go.Proofs
open Go Go.AL
theorem half_wrap {n : Nat} (h : n ≤ 1000000) : IntKind.i64.wrap (Int.tdiv (n : Int) 2) = Int.tdiv (n : Int) 2 := by
  have : Int.tdiv (n : Int) 2 = ((n / 2 : Nat) : Int) := by simp [Int.tdiv]
  rw [this,IntWalk.i64_in _ (by omega)]
theorem match_c {T : List Tk} (hT : T.length ≤ 100000) {pid : Nat} {e pt : PM Nd} (he : HC T pid 45 e) (hpt : HC T pid 127 pt) : HC T pid 118 (matchF T e pt) := by
  intro p r p' h K st hp hk
  refine acalls_leK (acalls_go_mod [] Tryz.func118 rfl Tryz.results118 Tryz.ntmps118 ?_)
  unfold matchF at h
  simp only [Option.bind_eq_some_iff,Option.map_eq_some_iff,Prod.exists,Prod.mk.injEq] at h
  obtain ⟨t0,p1,h1,v,p2,h2,p3,h3,n1,p4,h4,p5,h5,rfl,rfl⟩ := h
  simp only [go_sem]
  refine take_c hT h1 (psat_app hp) ?_
  simp only [go_sem,inS_get hp]
  first | (unfold ACallsH; simp only [put_some,put_none',ev_tmp,List.set_cons_succ,List.set_cons_zero,List.getD_cons_succ,List.getD_cons_zero]) | skip
  refine whole_c hT he _ _ _ h2 _ _ (psat_seta hp) ?_
  simp only [go_sem,inS_get hp]
  first | (unfold ACallsH; simp only [put_some,put_none',ev_tmp,List.set_cons_succ,List.set_cons_zero,List.getD_cons_succ,List.getD_cons_zero]) | skip
  refine node_c rfl rfl rfl rfl (fun _ => rfl) (ids_nds _ _ (.inr rfl) 6 [v]) ?_
  unfold ndFull
  simp only [go_sem,inS_get hp]
  first | (unfold ACallsH; simp only [put_some,put_none',ev_tmp,List.set_cons_succ,List.set_cons_zero,List.getD_cons_succ,List.getD_cons_zero]) | skip
  refine must_c hT h3 (psat_seta hp) fun _ => ?_
  simp only [go_sem,inS_get hp]
  refine awp_ownF (st.length + 1) 5 6 [ndSV v] (get_sx 1) (by simp) rfl ?_
  rw [set_sx]
  simp only [List.length_append,len_sx,List.length_cons,List.length_nil,List.set_cons_succ,List.set_cons_zero,List.append_assoc,List.cons_append,List.nil_append,Nat.zero_add,Nat.reduceAdd]
  refine awp_rounds [] (fun m env s => ∃ (nd : Nd) (q : PS) (k : Nat) (first : Bool) (ex : St),matchL T e pt m first nd q = some (n1,p4) ∧ 2 * m + nd.kids.length ≤ 2 * T.length + 5 ∧ nd.names = [] ∧ env = [.ptr pid 0,.any,.ptr st.length 0,.any,.ptr (st.length + 1) 0,.sc (.bool first),.any,.any,.any,.any,.any,.any,.any,.any,.any,.any,.any,.any,.any,.any,.any,.any,.any,.any,.any,.any,.any,.any,.any,.any,.any,.any,.any,.any,.any,.any,.any,.any,.any,.any,.any,.any,.any,.any,.any] ∧
    s = st.set pid (.cells (psL T q)) ++ (.cells zNd :: .cells (ndOwn (st.length + 2) k nd) :: .tok k :: ex)) (n := T.length + 2) ?_ ⟨_,_,0,true,[],h4,by simp [nodeF,Nd.kids]; omega,rfl,rfl,rfl⟩ ?_
  · repeat (first | exact leEnv_nil | refine leEnv_any _ ?_ | refine leEnv_same _ ?_ | refine leEnv_norm _ ?_)
  rintro m env s ⟨nd,q,k,first,ex,hl,hm,hnm,rfl,rfl⟩
  cases m with
  | zero => cases hl
  | succ m =>
  simp only [matchL,Option.bind_eq_some_iff] at hl
  obtain ⟨b,hb,hl⟩ := hl
  have hhw := half_wrap (n := nd.kids.length) (by omega)
  cases b with
  | false =>
    cases first with
    | true => cases hb
    | false =>
      simp only [Bool.false_eq_true,if_false,Option.some.injEq,Prod.mk.injEq] at hl hb
      obtain ⟨rfl,rfl⟩ := hl
      unfold isF at hb
      rw [Option.map_eq_some_iff] at hb
      obtain ⟨t,h6,h7⟩ := hb
      simp only [go_sem]
      refine is_c h6 (psat_seta hp) ?_
      simp only [go_sem,h7,inS_get hp]
      refine must_c hT h5 (psat_seta hp) fun _ => ?_
      simp only [go_sem,inS_get hp,ndOwn,zNd]
      exact fin_own hk hnm
  | true =>
    simp only [if_true,Option.bind_eq_some_iff,Prod.exists] at hl
    obtain ⟨q1,h8,q2,h9,x,q3,h10,q4,h11,y,q5,h12,hl⟩ := hl
    cases first with
    | true =>
      unfold ndOwn
      simp only [go_sem,hhw]
      refine most_c (p' := q1) (n := Int.tdiv nd.kids.length 2) (by simpa using h8) (psat_seta hp) fun _ => ?_
      simp only [go_sem,inS_get hp]
      first | (unfold ACallsH; simp only [put_some,put_none',ev_tmp,List.set_cons_succ,List.set_cons_zero,List.getD_cons_succ,List.getD_cons_zero]) | skip
      refine must_c hT h9 (psat_seta hp) fun _ => ?_
      simp only [go_sem,inS_get hp]
      first | (unfold ACallsH; simp only [put_some,put_none',ev_tmp,List.set_cons_succ,List.set_cons_zero,List.getD_cons_succ,List.getD_cons_zero]) | skip
      refine in_c hpt rfl h10 (psat_seta hp) ?_
      simp only [go_sem,inS_get hp]
      first | (unfold ACallsH; simp only [put_some,put_none',ev_tmp,List.set_cons_succ,List.set_cons_zero,List.getD_cons_succ,List.getD_cons_zero]) | skip
      refine must_c hT h11 (psat_seta hp) fun _ => ?_
      simp only [go_sem,inS_get hp]
      refine awp_drawW [] [(0,[6]),(0,[6]),(0,[6]),(0,[]),(3,[6]),(0,[]),(3,[8]),(0,[]),(1,[9])] Tryz.mixed rfl ?_
      simp only [go_sem,drawW_n,drawW_0,drawW_1,drawW_2,drawW_3,pend_n,pend_c,headD_c,isStore_s,zNd]
      refine ⟨_,_,whole_c hT he _ _ _ h12 _ _ (psat_seta hp) ⟨rfl,rfl⟩,?_⟩
      simp only [go_sem,drawW_n,drawW_0,drawW_1,drawW_2,drawW_3,pend_n,pend_c,headD_c,isStore_s,inS_get hp]
      rw [dk_eff]
      refine ⟨.slice .full 6 [ndSV x,ndSV y],?_,?_⟩
      · simp only [go_sem]
        exact ⟨⟨[],by simp⟩,ids_nds _ _ (.inr rfl) _ [_,_],.inl rfl⟩
      simp only [go_sem,drawW_n,drawW_0,drawW_1,drawW_2,drawW_3,pend_n,pend_c,headD_c,isStore_s]
      refine ⟨_,_,⟨Tryz.app6 (by omega),rfl,rfl⟩,?_⟩
      simp only [go_sem]
      refine ⟨m,_,by omega,?_,nd.addKids [x,y],q5,k + 1,false,_,hl,by rw [ak2_kids]; simp; omega,by rw [ak2_names]; exact hnm,rfl,by rw [ak2_kind,ak2_text,ak2_num,ak2_pos,ak2_kids,List.map_append]; rfl⟩
      repeat (first | exact leEnv_nil | refine leEnv_any _ ?_ | refine leEnv_same _ ?_ | refine leEnv_norm _ ?_)
    | false =>
      unfold isF at hb
      simp only [Bool.false_eq_true,if_false,Option.map_eq_some_iff] at hb
      obtain ⟨t,h6,h7⟩ := hb
      unfold ndOwn
      simp only [go_sem]
      refine is_c h6 (psat_seta hp) ?_
      simp only [go_sem,h7,hhw]
      first | (unfold ACallsH; simp only [put_some,put_none',ev_tmp,List.set_cons_succ,List.set_cons_zero,List.getD_cons_succ,List.getD_cons_zero]) | skip
      refine most_c (p' := q1) (n := Int.tdiv nd.kids.length 2) (by simpa using h8) (psat_seta hp) fun _ => ?_
      simp only [go_sem,inS_get hp]
      first | (unfold ACallsH; simp only [put_some,put_none',ev_tmp,List.set_cons_succ,List.set_cons_zero,List.getD_cons_succ,List.getD_cons_zero]) | skip
      refine must_c hT h9 (psat_seta hp) fun _ => ?_
      simp only [go_sem,inS_get hp]
      first | (unfold ACallsH; simp only [put_some,put_none',ev_tmp,List.set_cons_succ,List.set_cons_zero,List.getD_cons_succ,List.getD_cons_zero]) | skip
      refine in_c hpt rfl h10 (psat_seta hp) ?_
      simp only [go_sem,inS_get hp]
      first | (unfold ACallsH; simp only [put_some,put_none',ev_tmp,List.set_cons_succ,List.set_cons_zero,List.getD_cons_succ,List.getD_cons_zero]) | skip
      refine must_c hT h11 (psat_seta hp) fun _ => ?_
      simp only [go_sem,inS_get hp]
      refine awp_drawW [] [(0,[6]),(0,[6]),(0,[6]),(0,[]),(3,[6]),(0,[]),(3,[8]),(0,[]),(1,[9])] Tryz.mixed rfl ?_
      simp only [go_sem,drawW_n,drawW_0,drawW_1,drawW_2,drawW_3,pend_n,pend_c,headD_c,isStore_s,zNd]
      refine ⟨_,_,whole_c hT he _ _ _ h12 _ _ (psat_seta hp) ⟨rfl,rfl⟩,?_⟩
      simp only [go_sem,drawW_n,drawW_0,drawW_1,drawW_2,drawW_3,pend_n,pend_c,headD_c,isStore_s,inS_get hp]
      rw [dk_eff]
      refine ⟨.slice .full 6 [ndSV x,ndSV y],?_,?_⟩
      · simp only [go_sem]
        exact ⟨⟨[],by simp⟩,ids_nds _ _ (.inr rfl) _ [_,_],.inl rfl⟩
      simp only [go_sem,drawW_n,drawW_0,drawW_1,drawW_2,drawW_3,pend_n,pend_c,headD_c,isStore_s]
      refine ⟨_,_,⟨Tryz.app6 (by omega),rfl,rfl⟩,?_⟩
      simp only [go_sem]
      refine ⟨m,_,by omega,?_,nd.addKids [x,y],q5,k + 1,false,_,hl,by rw [ak2_kids]; simp; omega,by rw [ak2_names]; exact hnm,rfl,by rw [ak2_kind,ak2_text,ak2_num,ak2_pos,ak2_kids,List.map_append]; rfl⟩
      repeat (first | exact leEnv_nil | refine leEnv_any _ ?_ | refine leEnv_same _ ?_ | refine leEnv_norm _ ?_)
end Go.Proofs
