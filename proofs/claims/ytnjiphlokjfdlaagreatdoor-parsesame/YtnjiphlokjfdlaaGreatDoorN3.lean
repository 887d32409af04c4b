import Derived.Test.YtnjiphlokjfdlaaGreatDoorN2
import Derived.Test.YtnjiphlokjfdlaaGreatDoorA9
set_option maxHeartbeats 4000000
set_option linter.unusedSimpArgs false
set_option linter.unusedVariables false
set_option maxRecDepth 8000
namespace Go.AL
theorem stepR_of {T : List Tk} {p q : PS} {t u : Tk} (h : lookF T p = some t) {k : Int} (hk : t.kind = k) (hs : stepR T p = some (u,q)) (h0 : k ≠ 0 := by decide) : u = t := by
  unfold stepR at hs
  rw [h] at hs
  simp only [Option.map_some,Option.some.injEq] at hs
  rw [if_neg (by omega)] at hs
  cases hs; rfl
end Go.AL
namespace Go.Proofs
open Go Go.AL
theorem dty_c {T : List Tk} (hT : T.length ≤ 100000) {pid : Nat} {I : PM Nd} (hI : ∀ p r q,I p = some (r,q) → ∃ ty,DC T pid 35 ty ∧ tyB T ty p = some (r,q)) : DC T pid 35 (deepR T I) := by
  intro p r p' h K st hp hk
  refine acalls_leK (acalls_go_mod [] Tryz.func35 rfl Tryz.results35 Tryz.ntmps35 ?_)
  obtain ⟨hd,h⟩ := deepR_inv h
  rcases h with ⟨h1,rfl⟩ | ⟨q1,h1,h2,h3,h4,rfl⟩
  · simp only [go_sem]
    refine denter_c hd h1 (dat_app hp) ?_
    simp only [go_sem,inS_get hp]
    exact find_nd (m1 := .full) (m2 := .full) (z1 := 0) (z2 := 0) (nd := nd0) hk (.inr rfl) (.inr rfl)
  obtain ⟨ty,hty,hb⟩ := hI _ _ _ h2
  unfold tyB at hb
  simp only [Option.bind_eq_some_iff,Prod.exists] at hb
  obtain ⟨a0,ha0,x0,p1,h5,hL⟩ := hb
  have y1 := cells_facts (dat_set (p' := q1) hp)
  unfold dpL at y1
  have hw2 : IntKind.i64.wrap ((q1.deep : Int) - 1) = ((q1.deep - 1 : Nat) : Int) := by rw [IntWalk.i64_in _ (by omega)]; omega
  simp only [go_sem]
  refine denter_c hd h1 (dat_app hp) ?_
  simp only [go_sem,inS_get hp]
  refine dat_c ha0 (dat_seta hp) ?_
  simp only [go_sem,inS_get hp]
  refine dtext_c hT (by decide) h5 (dat_seta hp) ?_
  simp only [go_sem,inS_get hp]
  refine awp_ownC (st.length + 1) 5 6 0 (get_sx 1) (by simp) rfl ?_
  rw [set_sx]
  simp only [List.length_append,len_sx,List.length_cons,List.length_nil,List.set_cons_succ,List.set_cons_zero,List.append_assoc,List.cons_append,List.nil_append,Nat.zero_add,Nat.reduceAdd]
  refine awp_roundsC [] (st.length + 1) (fun m env s => ∃ (nd : Nd) (q : PS) (k : Nat) (ex : St),tyRL T ty m nd q = some (r,q1) ∧ m + nd.kids.length ≤ T.length + 2 ∧ nd.names = [] ∧ env = [.ptr pid 0,.any,.ptr st.length 0,.any,.ptr (st.length + 1) 0,.any,.any,.any,.any,.any,.any,.any,.any,.any,.any,.any,.any,.any,.any,.any,.any,.any,.any,.any,.any,.any,.any,.any,.any,.any,.any,.any,.any,.any,.any,.any,.any,.any,.any,.any,.any,.any,.any,.any,.any,.any,.any,.any,.any,.any,.any,.any,.any,.any,.any,.any,.any,.any,.any,.any,.any] ∧
    s = st.set pid (.cells (dpL T q)) ++ (.cells zNd :: .cells (ndOwn (st.length + 2) k nd) :: .tok k :: ex)) (n := T.length + 2) ?_ ⟨_,_,get_sx 1,lesRefl _,nodeF 27 a0 x0 [],_,0,[],hL,by simp [nodeF,Nd.kids],rfl,rfl,by rw [set_sx]; rfl⟩ ?_
  · repeat (first | exact leEnv_nil | refine leEnv_any _ ?_ | refine leEnv_same _ ?_ | refine leEnv_norm _ ?_)
  rintro m env s ⟨nd,q,k,ex,hl,hm,hnm,rfl,rfl⟩
  cases m with
  | zero => cases hl
  | succ m =>
  unfold tyRL at hl
  have y := cells_facts (dat_set (p' := q) hp)
  unfold dpL at y
  by_cases c0 : q.e = 0
  rotate_left
  · have c1 : (q.e == 0) = false := by simp [c0]
    rw [if_neg c0] at hl
    cases hl
    unfold ndOwn zNd dpL
    simp only [go_sem,y.1,y.2.1,y.2.2,c1,hw2,inS_get hp]
    exact find_own (p' := { q1 with deep := q1.deep - 1 }) hk hnm
  have c1 : (q.e == 0) = true := by simp [c0]
  rw [if_pos c0,Option.bind_eq_some_iff] at hl
  obtain ⟨t,ht,hl⟩ := hl
  by_cases c3 : t.kind = 3
  · have d3 : (t.kind == 3) = true := by simp [c3]
    rw [if_pos c3,Option.bind_eq_some_iff] at hl
    obtain ⟨⟨u,p2⟩,h6,hl⟩ := hl
    unfold ndOwn zNd dpL
    simp only [go_sem,y.1,y.2.1,y.2.2,c1,inS_get hp]
    refine dkind_c ht (dat_seta hp) ?_
    simp only [go_sem,d3]
    refine dstep_c hT h6 (dat_seta hp) ?_
    simp only [go_sem,inS_get hp]
    have e6 := stepR_of ht c3 h6
    subst e6
    refine ⟨Tryz.app6 (by omega),m,_,by omega,?_,_,ndOwn (st.length + 2) (k + 1) (nd.addKid (nodeF 27 u.pos u.text [])),get_sx 1,?_,nd.addKid (nodeF 27 u.pos u.text []),p2,k + 1,_,hl,by rw [ak_kids]; simp; omega,by rw [ak_names]; exact hnm,rfl,rfl⟩
    · repeat (first | exact leEnv_nil | refine leEnv_any _ ?_ | refine leEnv_same _ ?_ | refine leEnv_norm _ ?_)
    · rw [own_add]
      exact .cons (SVle.refl _) (.cons (SVle.refl _) (.cons (SVle.refl _) (.cons (SVle.refl _) (.cons (SVle.refl _) (.cons (SVle.elems (LeE.append (LeE.refl _) (.cons (.cons (SVle.refl _) (.cons (SVle.refl _) (.cons (SVle.refl _) (.cons (SVle.refl _) (.cons (SVle.nil .imm 0 1 (.inr rfl)) (.cons (SVle.nil .imm 0 6 (.inr rfl)) .nil)))))) .nil))) .nil)))))
  · have d3 : (t.kind == 3) = false := by simp [c3]
    rw [if_neg c3] at hl
    cases b1 : isT t [40] with
    | false =>
      rw [if_neg (by rw [b1]; decide)] at hl
      cases hl
      unfold ndOwn zNd dpL
      simp only [go_sem,y.1,y.2.1,y.2.2,c1,inS_get hp]
      refine dkind_c ht (dat_seta hp) ?_
      simp only [go_sem,d3]
      refine dis_t ht b1 (dat_seta hp) ?_
      simp only [go_sem,y.1,y.2.1,y.2.2,c1,hw2,inS_get hp]
      exact find_own (p' := { q1 with deep := q1.deep - 1 }) hk hnm
    | true =>
      rw [if_pos b1] at hl
      simp only [Option.bind_eq_some_iff,Prod.exists] at hl
      obtain ⟨u,p2,h6,x,p3,h7,p4,h8,hl⟩ := hl
      unfold ndOwn zNd dpL
      simp only [go_sem,y.1,y.2.1,y.2.2,c1,inS_get hp]
      refine dkind_c ht (dat_seta hp) ?_
      simp only [go_sem,d3]
      refine dis_t ht b1 (dat_seta hp) ?_
      simp only [go_sem]
      refine dstep_c hT h6 (dat_seta hp) ?_
      simp only [go_sem,inS_get hp]
      refine awp_drawW [] [(0,[5]),(0,[5]),(0,[]),(3,[5]),(0,[]),(3,[7]),(0,[]),(1,[8])] Tryz.mixed rfl ?_
      simp only [go_sem,drawW_n,drawW_0,drawW_1,drawW_2,drawW_3,pend_n,pend_c,headD_c,isStore_s]
      refine ⟨_,_,hty _ _ _ h7 _ _ (dat_seta hp) ⟨rfl,rfl⟩,?_⟩
      simp only [go_sem,drawW_n,drawW_0,drawW_1,drawW_2,drawW_3,pend_n,pend_c,headD_c,isStore_s,inS_get hp]
      rw [dk_eff]
      refine ⟨.slice .full 6 [ndSV x],?_,?_⟩
      · simp only [go_sem]
        exact ⟨⟨[],by simp⟩,ids_nds _ _ (.inr rfl) _ [_],.inl rfl⟩
      simp only [go_sem,drawW_n,drawW_0,drawW_1,drawW_2,drawW_3,pend_n,pend_c,headD_c,isStore_s]
      refine ⟨_,_,⟨Tryz.app6 (by omega),rfl,rfl⟩,?_⟩
      simp only [go_sem]
      first | (unfold ACallsH; simp only [put_some,put_none',ev_tmp,List.set_cons_succ,List.set_cons_zero,List.getD_cons_succ,List.getD_cons_zero]) | skip
      refine dwant_c hT h8 (dat_seta hp) fun _ => ?_
      simp only [go_sem,inS_get hp]
      refine ⟨m,_,by omega,?_,_,ndOwn (st.length + 2) (k + 1) (nd.addKid x),get_sx 1,by rw [own_add]; exact lesRefl _,nd.addKid x,p4,k + 1,_,hl,by rw [ak_kids]; simp; omega,by rw [ak_names]; exact hnm,rfl,rfl⟩
      repeat (first | exact leEnv_nil | refine leEnv_any _ ?_ | refine leEnv_same _ ?_ | refine leEnv_norm _ ?_)
theorem dcon_c {T : List Tk} (hT : T.length ≤ 100000) {pid : Nat} {ty : PM Nd} (hty : DC T pid 35 ty) : DC T pid 23 (conR T ty) := by
  intro p r p' h K st hp hk
  refine acalls_leK (acalls_go_mod [] Tryz.func23 rfl Tryz.results23 Tryz.ntmps23 ?_)
  unfold conR at h
  simp only [Option.bind_eq_some_iff,Prod.exists] at h
  obtain ⟨a0,ha0,x0,p1,h5,b0,h6,hL⟩ := h
  simp only [go_sem]
  refine dat_c ha0 (dat_app hp) ?_
  simp only [go_sem,inS_get hp]
  refine dtext_c hT (by decide) h5 (dat_app hp) ?_
  simp only [go_sem,inS_get hp]
  refine dis_c h6 (dat_seta hp) ?_
  simp only [go_sem,inS_get hp]
  refine awp_ownC (st.length + 1) 5 6 0 (get_sx 1) (by simp) rfl ?_
  rw [set_sx]
  simp only [List.length_append,len_sx,List.length_cons,List.length_nil,List.set_cons_succ,List.set_cons_zero,List.append_assoc,List.cons_append,List.nil_append,Nat.zero_add,Nat.reduceAdd]
  refine awp_rounds [] (fun m env s => ∃ (nd : Nd) (q : PS) (k : Nat) (more : Bool) (ex : St),conRL T ty m more nd q = some (r,p') ∧ m + nd.kids.length ≤ T.length + 2 ∧ nd.names = [] ∧ env = [.ptr pid 0,.any,.ptr st.length 0,.ptr (st.length + 1) 0,.sc (.bool more),.any,.any,.any,.any,.any,.any,.any,.any,.any,.any,.any,.any,.any,.any,.any,.any,.any,.any,.any,.any,.any,.any,.any,.any,.any,.any,.any,.any,.any,.any,.any,.any,.any,.any] ∧
    s = st.set pid (.cells (dpL T q)) ++ (.cells zNd :: .cells (ndOwn (st.length + 2) k nd) :: .tok k :: ex)) (n := T.length + 2) ?_ ⟨_,_,0,_,[],hL,by simp [nodeF,Nd.kids],rfl,rfl,rfl⟩ ?_
  · repeat (first | exact leEnv_nil | refine leEnv_any _ ?_ | refine leEnv_same _ ?_ | refine leEnv_norm _ ?_)
  rintro m env s ⟨nd,q,k,more,ex,hl,hm,hnm,rfl,rfl⟩
  cases m with
  | zero => cases hl
  | succ m =>
  unfold conRL at hl
  have y := cells_facts (dat_set (p' := q) hp)
  unfold dpL at y
  cases more with
  | false =>
    rw [if_neg (by simp)] at hl
    cases hl
    unfold ndOwn zNd
    simp only [go_sem]
    exact find_own hk hnm
  | true =>
    by_cases c0 : q.e = 0
    rotate_left
    · have c1 : (q.e == 0) = false := by simp [c0]
      rw [if_neg (by simp [c0])] at hl
      cases hl
      unfold ndOwn zNd dpL
      simp only [go_sem,y.1,y.2.1,y.2.2,c1,inS_get hp]
      exact find_own hk hnm
    have c1 : (q.e == 0) = true := by simp [c0]
    rw [if_pos ⟨rfl,c0⟩] at hl
    simp only [Option.bind_eq_some_iff,Prod.exists] at hl
    obtain ⟨u,p2,h7,p3,h8,x,p4,h9,b2,h10,hl⟩ := hl
    unfold ndOwn zNd dpL
    by_cases c4 : nd.kids.length = 4
    · have l1 : ((nd.kids.length : Int) == 4) = true := by simp [c4]
      unfold capR at h8
      rw [if_pos c4] at h8
      simp only [go_sem,y.1,y.2.1,y.2.2,c1,inS_get hp]
      refine dstep_c hT h7 (dat_seta hp) ?_
      simp only [go_sem,inS_get hp,List.length_map,l1]
      refine dfail_c h8 (dat_seta hp) fun _ => ?_
      simp only [go_sem,inS_get hp]
      refine awp_drawW [] [(0,[5]),(0,[5]),(0,[]),(3,[5]),(0,[]),(3,[7]),(0,[]),(1,[8])] Tryz.mixed rfl ?_
      simp only [go_sem,drawW_n,drawW_0,drawW_1,drawW_2,drawW_3,pend_n,pend_c,headD_c,isStore_s]
      refine ⟨_,_,hty _ _ _ h9 _ _ (dat_seta hp) ⟨rfl,rfl⟩,?_⟩
      simp only [go_sem,drawW_n,drawW_0,drawW_1,drawW_2,drawW_3,pend_n,pend_c,headD_c,isStore_s,inS_get hp]
      rw [dk_eff]
      refine ⟨.slice .full 6 [ndSV x],?_,?_⟩
      · simp only [go_sem]
        exact ⟨⟨[],by simp⟩,ids_nds _ _ (.inr rfl) _ [_],.inl rfl⟩
      simp only [go_sem,drawW_n,drawW_0,drawW_1,drawW_2,drawW_3,pend_n,pend_c,headD_c,isStore_s]
      refine ⟨_,_,⟨Tryz.app6 (by omega),rfl,rfl⟩,?_⟩
      simp only [go_sem]
      first | (unfold ACallsH; simp only [put_some,put_none',ev_tmp,List.set_cons_succ,List.set_cons_zero,List.getD_cons_succ,List.getD_cons_zero]) | skip
      refine dis_c h10 (dat_seta hp) ?_
      simp only [go_sem,inS_get hp]
      refine ⟨m,_,by omega,?_,nd.addKid x,p4,k + 1,b2,_,hl,by rw [ak_kids]; simp; omega,by rw [ak_names]; exact hnm,rfl,by rw [ak_kind,ak_text,ak_num,ak_pos,ak_kids,List.map_append]; rfl⟩
      repeat (first | exact leEnv_nil | refine leEnv_any _ ?_ | refine leEnv_same _ ?_ | refine leEnv_norm _ ?_)
    · have l1 : ((nd.kids.length : Int) == 4) = false := by simp; omega
      unfold capR at h8
      rw [if_neg c4] at h8
      cases h8
      simp only [go_sem,y.1,y.2.1,y.2.2,c1,inS_get hp]
      refine dstep_c hT h7 (dat_seta hp) ?_
      simp only [go_sem,inS_get hp,List.length_map,l1]
      refine awp_drawW [] [(0,[5]),(0,[5]),(0,[]),(3,[5]),(0,[]),(3,[7]),(0,[]),(1,[8])] Tryz.mixed rfl ?_
      simp only [go_sem,drawW_n,drawW_0,drawW_1,drawW_2,drawW_3,pend_n,pend_c,headD_c,isStore_s]
      refine ⟨_,_,hty _ _ _ h9 _ _ (dat_seta hp) ⟨rfl,rfl⟩,?_⟩
      simp only [go_sem,drawW_n,drawW_0,drawW_1,drawW_2,drawW_3,pend_n,pend_c,headD_c,isStore_s,inS_get hp]
      rw [dk_eff]
      refine ⟨.slice .full 6 [ndSV x],?_,?_⟩
      · simp only [go_sem]
        exact ⟨⟨[],by simp⟩,ids_nds _ _ (.inr rfl) _ [_],.inl rfl⟩
      simp only [go_sem,drawW_n,drawW_0,drawW_1,drawW_2,drawW_3,pend_n,pend_c,headD_c,isStore_s]
      refine ⟨_,_,⟨Tryz.app6 (by omega),rfl,rfl⟩,?_⟩
      simp only [go_sem]
      first | (unfold ACallsH; simp only [put_some,put_none',ev_tmp,List.set_cons_succ,List.set_cons_zero,List.getD_cons_succ,List.getD_cons_zero]) | skip
      refine dis_c h10 (dat_seta hp) ?_
      simp only [go_sem,inS_get hp]
      refine ⟨m,_,by omega,?_,nd.addKid x,p4,k + 1,b2,_,hl,by rw [ak_kids]; simp; omega,by rw [ak_names]; exact hnm,rfl,by rw [ak_kind,ak_text,ak_num,ak_pos,ak_kids,List.map_append]; rfl⟩
      repeat (first | exact leEnv_nil | refine leEnv_any _ ?_ | refine leEnv_same _ ?_ | refine leEnv_norm _ ?_)
end Go.Proofs
namespace Go.AL
theorem sumsRL_look {T : List Tk} {part : PM Nd} {a b c : Tx} {n : Nat} {nd r : Nd} {p q : PS} (h : sumsRL T part a b c n nd p = some (r,q)) : ∃ m t,n = m + 1 ∧ lookF T p = some t ∧
    (if opR t a b c ≠ [] then (stepR T p).bind fun r => (part r.2).bind fun q => sumsRL T part a b c m (nodeF 13 nd.pos (opR t a b c) [nd,q.1]) q.2 else some (nd,p)) = some (r,q) := by
  cases n with
  | zero => cases h
  | succ m =>
    unfold sumsRL at h
    rw [Option.bind_eq_some_iff] at h
    obtain ⟨t,h1,h2⟩ := h
    exact ⟨m,t,rfl,h1,h2⟩
theorem le_norm1 {x y : SV} (h : SVle (norm1 x) y) : SVle x y := fun st σ w v hr => h st σ w v hr.norm1
theorem ids_op {n : Nat} {k a m : Int} {t : Tx} {y : SV} (h : Ids n y) : Ids n (.agg [.sc (.int .i64 k),.sc (.string (ba t)),.sc (.int .i64 m),.sc (.int .i64 a),.slice .full 0 [],y]) := by
  rw [ids_agg]
  simp only [List.forall_mem_cons,ids_sc,true_and]
  exact ⟨ids_slice (.inr rfl) (fun x hx => by cases hx),h,fun x hx => by cases hx⟩
theorem le_two {k a : Int} {t : Tx} {n x : Nd} : SVles [.sc (.int .i64 k),.sc (.string (ba t)),.sc (.int .i64 0),.sc (.int .i64 a),.slice .full 0 [],.slice .full 6 [.agg (ndCells n),ndSV x]] (ndCells (nodeF k a t [n,x])) := by
  refine .cons (SVle.refl _) (.cons (SVle.refl _) (.cons (SVle.refl _) (.cons (SVle.refl _) (.cons ?_ (.cons ?_ .nil)))))
  · exact le_norm1 (le_tx2 (l := []) (.inr rfl))
  · refine fun st σ w v hv => ?_
    have h1 := SVle.elems (m := .full) (z := 6) (l := [.agg (ndCells n),ndSV x]) (r := [ndSV n,ndSV x]) (.cons (by rw [cells_nd]; exact lesRefl _) (.cons (lesRefl _) .nil)) _ _ _ _ hv
    exact le_norm1 (le_nds (m := .full) (l := [n,x]) (.inl rfl)) _ _ _ _ h1
theorem ids_twoI (n : Nat) (a b : Nd) : Ids n (.slice .imm 6 [.agg (ndCells a),ndSV b]) :=
  ids_slice (.inl rfl) fun x hx y hy => by
    simp only [List.mem_cons,List.not_mem_nil,or_false] at hx
    rcases hx with rfl | rfl
    · have := ids_nd n a
      rw [ndSV_eq,ids_agg] at this
      exact this y hy
    · have := ids_nd n b
      rw [ndSV_eq,ids_agg] at this
      rw [cells_nd] at hy
      exact this y hy
theorem find_two {T : List Tk} {pid : Nat} {p' : PS} {k a : Int} {t : Tx} {n x : Nd} {st : St} {K : SV → St → Prop} (hk : K (ndSV (nodeF k a t [n,x])) (st.set pid (.cells (dpL T p')))) {ex : St} :
    FinM st (LeK K) (.agg [.sc (.int .i64 k),.sc (.string (ba t)),.sc (.int .i64 0),.sc (.int .i64 a),.slice .full 0 [],.slice .full 6 [.agg (ndCells n),ndSV x]]) (st.set pid (.cells (dpL T p')) ++ ex) := by
  refine ⟨_,ex,rfl,(Mod.refl _).set _ _ (objs_dp _ _ _),?_,_,?_,hk⟩
  · show Ids _ (.agg [.sc (.int .i64 k),.sc (.string (ba t)),.sc (.int .i64 0),.sc (.int .i64 a),.slice .imm 0 [],.slice .imm 6 [.agg (ndCells n),ndSV x]])
    rw [ids_agg]
    simp only [List.forall_mem_cons,ids_sc,true_and]
    exact ⟨ids_slice (.inl rfl) (fun x hx => by cases hx),ids_twoI _ n x,fun x hx => by cases hx⟩
  · show SVle (.agg [.sc (.int .i64 k),.sc (.string (ba t)),.sc (.int .i64 0),.sc (.int .i64 a),.slice .imm 0 [],.slice .imm 6 [.agg (ndCells n),ndSV x]]) _
    exact SVle.agg (.cons (SVle.refl _) (.cons (SVle.refl _) (.cons (SVle.refl _) (.cons (SVle.refl _) (.cons (SVle.nil .imm 0 1 (.inr rfl)) (.cons (SVle.elems (.cons (by rw [cells_nd]; exact lesRefl _) (.cons (lesRefl _) .nil))) .nil))))))
theorem ids_twoN (n : Nat) (a b : Nd) : Ids n (.slice .full 6 [.agg (ndCells a),ndSV b]) :=
  ids_slice (.inr rfl) fun x hx y hy => by
    have h2 := ids_nds n .full (.inr rfl) 6 [a,b]
    simp only [List.mem_cons,List.not_mem_nil,or_false] at hx
    rcases hx with rfl | rfl
    · have := ids_nd n a
      rw [ndSV_eq,ids_agg] at this
      exact this y hy
    · have := ids_nd n b
      rw [ndSV_eq,ids_agg] at this
      rw [cells_nd] at hy
      exact this y hy
end Go.AL
namespace Go.Proofs
open Go Go.AL
theorem dprod_c {T : List Tk} (hT : T.length ≤ 100000) {pid : Nat} {part : PM Nd} (hpt : DC T pid 82 part) : DC T pid 67 (sumsR T part [42] [47] [37]) := by
  intro p r p' h K st hp hk
  refine acalls_leK (acalls_go_mod [] Tryz.func67 rfl Tryz.results67 Tryz.ntmps67 ?_)
  unfold sumsR at h
  simp only [Option.bind_eq_some_iff,Prod.exists] at h
  obtain ⟨n0,p1,h1,hL⟩ := h
  obtain ⟨m0,t0,hm0,ht0,_⟩ := sumsRL_look hL
  simp only [go_sem]
  refine hpt _ _ _ h1 _ _ (dat_app hp) ?_
  simp only [go_sem,inS_get hp]
  refine dop_c ht0 (dat_seta hp) ?_
  simp only [go_sem,inS_get hp]
  refine awp_roundsC [] (st.length + 1) (fun m env s => ∃ (nd : Nd) (q : PS) (t : Tk) (ex : St),sumsRL T part [42] [47] [37] m nd q = some (r,p') ∧ lookF T q = some t ∧ env = [.ptr pid 0,.any,.ptr st.length 0,.ptr (st.length + 1) 0,.sc (.string (ba (opR t [42] [47] [37]))),.any,.any,.any,.any,.any,.any,.any,.any,.any,.any,.any,.any,.any,.any,.any,.any,.any,.any,.any] ∧
    s = st.set pid (.cells (dpL T q)) ++ (.cells zNd :: .cells (ndCells nd) :: ex)) (n := T.length + 2) ?_ ⟨_,_,get_sx 1,lesRefl _,n0,_,t0,[],hL,ht0,rfl,by rw [set_sx,cells_nd]; rfl⟩ ?_
  · repeat (first | exact leEnv_nil | refine leEnv_any _ ?_ | refine leEnv_same _ ?_ | refine leEnv_norm _ ?_)
  rintro m env s ⟨nd,q,t,ex,hl,ht,rfl,rfl⟩
  obtain ⟨m,t',rfl,ht',hl⟩ := sumsRL_look hl
  rw [ht] at ht'; cases ht'
  obtain ⟨o,ho⟩ : ∃ o,opR t [42] [47] [37] = o := ⟨_,rfl⟩
  rw [ho] at hl
  by_cases c0 : o = []
  · have c1 : (o == []) = true := by simp [c0]
    rw [if_neg (by simp [c0])] at hl
    cases hl
    rw [ho]
    unfold ndCells zNd
    simp only [go_sem,tl_ba,tl_mk,List.toList_toArray,c1]
    exact find_nd (m1 := .imm) (m2 := .imm) (z1 := 1) (z2 := 6) hk (.inl rfl) (.inl rfl)
  · have c1 : (o == []) = false := by simp [c0]
    rw [if_pos c0] at hl
    simp only [Option.bind_eq_some_iff,Prod.exists] at hl
    obtain ⟨u,p2,h2,x,p3,h3,hl⟩ := hl
    obtain ⟨m1,t1,rfl,ht1,_⟩ := sumsRL_look hl
    rw [ho]
    unfold ndCells zNd
    simp only [go_sem,tl_ba,tl_mk,List.toList_toArray,c1]
    refine dstep_c hT h2 (dat_seta hp) ?_
    simp only [go_sem,inS_get hp]
    refine awp_drawW [] [(0,[8]),(0,[8]),(0,[8]),(0,[8]),(0,[]),(3,[8]),(0,[]),(0,[]),(1,[9])] Tryz.mixed rfl ?_
    simp only [go_sem,drawW_n,drawW_0,drawW_1,drawW_2,drawW_3,pend_n,pend_c,headD_c,isStore_s]
    refine ⟨_,_,hpt _ _ _ h3 _ _ (dat_seta hp) ⟨rfl,rfl⟩,?_⟩
    simp only [go_sem,drawW_n,drawW_0,drawW_1,drawW_2,drawW_3,pend_n,pend_c,headD_c,isStore_s,inS_get hp]
    rw [dk_eff]
    refine ⟨.slice .full 6 [.agg (ndCells nd),ndSV x],?_,?_⟩
    · unfold ndCells
      simp only [go_sem]
      exact ⟨⟨[],by simp⟩,ids_twoN _ nd x,.inl rfl⟩
    rw [dk_eff]
    refine ⟨.agg [.sc (.int .i64 13),.sc (.string (ba o)),.sc (.int .i64 0),.sc (.int .i64 nd.pos),.slice .full 0 [],.slice .full 6 [.agg (ndCells nd),ndSV x]],?_,?_⟩
    · unfold ndCells
      simp only [go_sem]
      exact ⟨⟨[],by simp⟩,ids_op (ids_twoN _ nd x),.inl rfl⟩
    unfold ndCells
    simp only [go_sem,drawW_n,drawW_0,drawW_1,drawW_2,drawW_3,pend_n,pend_c,headD_c,isStore_s]
    refine dop_c ht1 (dat_seta hp) ?_
    simp only [go_sem,inS_get hp]
    refine ⟨_,_,Nat.lt_succ_self _,?_,_,_,get_sx 1,le_two,nodeF 13 nd.pos o [nd,x],p3,t1,_,hl,ht1,rfl,rfl⟩
    repeat (first | exact leEnv_nil | refine leEnv_any _ ?_ | refine leEnv_same _ ?_ | refine leEnv_norm _ ?_)
theorem dsum_c {T : List Tk} (hT : T.length ≤ 100000) {pid : Nat} {part : PM Nd} (hpt : DC T pid 67 part) : DC T pid 48 (sumsR T part [43] [45] [94]) := by
  intro p r p' h K st hp hk
  refine acalls_leK (acalls_go_mod [] Tryz.func48 rfl Tryz.results48 Tryz.ntmps48 ?_)
  unfold sumsR at h
  simp only [Option.bind_eq_some_iff,Prod.exists] at h
  obtain ⟨n0,p1,h1,hL⟩ := h
  obtain ⟨m0,t0,hm0,ht0,_⟩ := sumsRL_look hL
  simp only [go_sem]
  refine hpt _ _ _ h1 _ _ (dat_app hp) ?_
  simp only [go_sem,inS_get hp]
  refine dop_c ht0 (dat_seta hp) ?_
  simp only [go_sem,inS_get hp]
  refine awp_roundsC [] (st.length + 1) (fun m env s => ∃ (nd : Nd) (q : PS) (t : Tk) (ex : St),sumsRL T part [43] [45] [94] m nd q = some (r,p') ∧ lookF T q = some t ∧ env = [.ptr pid 0,.any,.ptr st.length 0,.ptr (st.length + 1) 0,.sc (.string (ba (opR t [43] [45] [94]))),.any,.any,.any,.any,.any,.any,.any,.any,.any,.any,.any,.any,.any,.any,.any,.any,.any,.any,.any] ∧
    s = st.set pid (.cells (dpL T q)) ++ (.cells zNd :: .cells (ndCells nd) :: ex)) (n := T.length + 2) ?_ ⟨_,_,get_sx 1,lesRefl _,n0,_,t0,[],hL,ht0,rfl,by rw [set_sx,cells_nd]; rfl⟩ ?_
  · repeat (first | exact leEnv_nil | refine leEnv_any _ ?_ | refine leEnv_same _ ?_ | refine leEnv_norm _ ?_)
  rintro m env s ⟨nd,q,t,ex,hl,ht,rfl,rfl⟩
  obtain ⟨m,t',rfl,ht',hl⟩ := sumsRL_look hl
  rw [ht] at ht'; cases ht'
  obtain ⟨o,ho⟩ : ∃ o,opR t [43] [45] [94] = o := ⟨_,rfl⟩
  rw [ho] at hl
  by_cases c0 : o = []
  · have c1 : (o == []) = true := by simp [c0]
    rw [if_neg (by simp [c0])] at hl
    cases hl
    rw [ho]
    unfold ndCells zNd
    simp only [go_sem,tl_ba,tl_mk,List.toList_toArray,c1]
    exact find_nd (m1 := .imm) (m2 := .imm) (z1 := 1) (z2 := 6) hk (.inl rfl) (.inl rfl)
  · have c1 : (o == []) = false := by simp [c0]
    rw [if_pos c0] at hl
    simp only [Option.bind_eq_some_iff,Prod.exists] at hl
    obtain ⟨u,p2,h2,x,p3,h3,hl⟩ := hl
    obtain ⟨m1,t1,rfl,ht1,_⟩ := sumsRL_look hl
    rw [ho]
    unfold ndCells zNd
    simp only [go_sem,tl_ba,tl_mk,List.toList_toArray,c1]
    refine dstep_c hT h2 (dat_seta hp) ?_
    simp only [go_sem,inS_get hp]
    refine awp_drawW [] [(0,[8]),(0,[8]),(0,[8]),(0,[8]),(0,[]),(3,[8]),(0,[]),(0,[]),(1,[9])] Tryz.mixed rfl ?_
    simp only [go_sem,drawW_n,drawW_0,drawW_1,drawW_2,drawW_3,pend_n,pend_c,headD_c,isStore_s]
    refine ⟨_,_,hpt _ _ _ h3 _ _ (dat_seta hp) ⟨rfl,rfl⟩,?_⟩
    simp only [go_sem,drawW_n,drawW_0,drawW_1,drawW_2,drawW_3,pend_n,pend_c,headD_c,isStore_s,inS_get hp]
    rw [dk_eff]
    refine ⟨.slice .full 6 [.agg (ndCells nd),ndSV x],?_,?_⟩
    · unfold ndCells
      simp only [go_sem]
      exact ⟨⟨[],by simp⟩,ids_twoN _ nd x,.inl rfl⟩
    rw [dk_eff]
    refine ⟨.agg [.sc (.int .i64 13),.sc (.string (ba o)),.sc (.int .i64 0),.sc (.int .i64 nd.pos),.slice .full 0 [],.slice .full 6 [.agg (ndCells nd),ndSV x]],?_,?_⟩
    · unfold ndCells
      simp only [go_sem]
      exact ⟨⟨[],by simp⟩,ids_op (ids_twoN _ nd x),.inl rfl⟩
    unfold ndCells
    simp only [go_sem,drawW_n,drawW_0,drawW_1,drawW_2,drawW_3,pend_n,pend_c,headD_c,isStore_s]
    refine dop_c ht1 (dat_seta hp) ?_
    simp only [go_sem,inS_get hp]
    refine ⟨_,_,Nat.lt_succ_self _,?_,_,_,get_sx 1,le_two,nodeF 13 nd.pos o [nd,x],p3,t1,_,hl,ht1,rfl,rfl⟩
    repeat (first | exact leEnv_nil | refine leEnv_any _ ?_ | refine leEnv_same _ ?_ | refine leEnv_norm _ ?_)
theorem dcmp_c {T : List Tk} (hT : T.length ≤ 100000) {pid : Nat} {e pt : PM Nd} (hs : DC T pid 48 (sumR T e pt)) : DC T pid 36 (cmpR T e pt) := by
  intro p r p' h K st hp hk
  refine acalls_leK (acalls_go_mod [] Tryz.func36 rfl Tryz.results36 Tryz.ntmps36 ?_)
  unfold cmpR at h
  simp only [Option.bind_eq_some_iff,Prod.exists] at h
  obtain ⟨nd,p1,h1,t,ht,h⟩ := h
  obtain ⟨o,ho⟩ : ∃ o,opR t [61] [60] [61] = o := ⟨_,rfl⟩
  rw [ho] at h
  by_cases c0 : o = []
  · have c1 : (o == []) = true := by simp [c0]
    rw [if_neg (by simp [c0])] at h
    cases h
    simp only [go_sem]
    refine hs _ _ _ h1 _ _ (dat_app hp) ?_
    simp only [go_sem,inS_get hp]
    refine dop_c2 ht ho (dat_seta hp) ?_
    simp only [go_sem,inS_get hp,tl_ba,tl_mk,List.toList_toArray,c1]
    exact find_nd' hk
  · have c1 : (o == []) = false := by simp [c0]
    rw [if_pos c0] at h
    simp only [Option.bind_eq_some_iff,Option.map_eq_some_iff,Prod.exists,Prod.mk.injEq] at h
    obtain ⟨u,p2,h2,x,p3,h3,rfl,rfl⟩ := h
    simp only [go_sem]
    refine hs _ _ _ h1 _ _ (dat_app hp) ?_
    simp only [go_sem,inS_get hp]
    refine dop_c2 ht ho (dat_seta hp) ?_
    simp only [go_sem,inS_get hp,tl_ba,tl_mk,List.toList_toArray,c1]
    first | (unfold ACallsH; simp only [put_some,put_none',ev_tmp,List.set_cons_succ,List.set_cons_zero,List.getD_cons_succ,List.getD_cons_zero]) | skip
    refine dstep_c hT h2 (dat_seta hp) ?_
    simp only [go_sem,inS_get hp]
    refine awp_drawW [] [(0,[8]),(0,[8]),(0,[8]),(0,[8]),(0,[]),(3,[8]),(0,[]),(0,[]),(1,[9])] Tryz.mixed rfl ?_
    simp only [go_sem,drawW_n,drawW_0,drawW_1,drawW_2,drawW_3,pend_n,pend_c,headD_c,isStore_s,cells_nd]
    refine ⟨_,_,hs _ _ _ h3 _ _ (dat_seta hp) ⟨rfl,rfl⟩,?_⟩
    simp only [go_sem,drawW_n,drawW_0,drawW_1,drawW_2,drawW_3,pend_n,pend_c,headD_c,isStore_s,inS_get hp]
    rw [dk_eff]
    refine ⟨.slice .full 6 [.agg (ndCells nd),ndSV x],?_,?_⟩
    · unfold ndCells
      simp only [go_sem]
      exact ⟨⟨[],by simp⟩,ids_twoN _ nd x,.inl rfl⟩
    rw [dk_eff]
    refine ⟨.agg [.sc (.int .i64 13),.sc (.string (ba o)),.sc (.int .i64 0),.sc (.int .i64 nd.pos),.slice .full 0 [],.slice .full 6 [.agg (ndCells nd),ndSV x]],?_,?_⟩
    · unfold ndCells
      simp only [go_sem]
      exact ⟨⟨[],by simp⟩,ids_op (ids_twoN _ nd x),.inl rfl⟩
    unfold ndCells
    simp only [go_sem,drawW_n,drawW_0,drawW_1,drawW_2,drawW_3,pend_n,pend_c,headD_c,isStore_s]
    exact find_two hk
end Go.Proofs
