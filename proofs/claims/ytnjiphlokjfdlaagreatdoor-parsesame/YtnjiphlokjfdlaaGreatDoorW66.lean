import Derived.Test.YtnjiphlokjfdlaaGreatDoorW65
set_option maxHeartbeats 4000000
set_option linter.unusedSimpArgs false
set_option linter.unusedVariables false
set_option maxRecDepth 8000
namespace Go.Proofs
open Go Go.AL
theorem dat_t {T : List Tk} {pid : Nat} {p : PS} {t : Tk} (h : lookF T p = some t) {K : SV → St → Prop} {st : St} (hp : DAt T pid p st) (hk : K (.sc (.int .i64 t.pos)) st) : ACalls Tryz.prog 10 [.ptr pid 0] K st :=
  dat_c (by unfold atR; rw [h]; rfl) hp hk
theorem datomE_c {T : List Tk} (hT : T.length ≤ 100000) {pid : Nat} {e pt : PM Nd} : DE T pid 98 (atomR T e pt) := by
  intro p t r p' ht h4 h
  unfold atomR at h
  rw [ht] at h
  simp only [Option.bind_some] at h
  rw [if_neg (by omega),if_neg (by omega),if_neg (by omega),if_pos h4] at h
  have hr := leafR_names h
  refine ⟨hr,fun K st hp hk => ?_⟩
  refine acalls_go_mod0 [] Tryz.func98 rfl Tryz.results98 Tryz.ntmps98 ?_
  have d1 : (t.kind == 1) = false := by simp [h4]
  have d2 : (t.kind == 2) = false := by simp [h4]
  have d3 : (t.kind == 3) = false := by simp [h4]
  have d4 : (t.kind == 4) = true := by simp [h4]
  rw [dE_eq hr] at hk
  simp only [go_sem]
  refine dat_t ht (dat_app hp) ?_
  simp only [go_sem]
  refine dkind_c ht (dat_app hp) ?_
  simp only [go_sem,d1,d2,d3,d4]
  refine dleafE_c hT h (dat_app hp) ?_
  rw [dE_eq hr]
  simp only [go_sem,inS_get hp]
  exact ⟨_,_,rfl,(Mod.refl _).set _ _ (objs_dp _ _ _),by
    rw [ids_agg]
    simp only [List.forall_mem_cons,ids_sc,true_and]
    exact ⟨ids_slice (.inr rfl) (fun x hx => by cases hx),ids_slice (.inr rfl) (fun x hx => by cases hx),fun x hx => by cases hx⟩,hk⟩
theorem datomL_c {T : List Tk} (hT : T.length ≤ 100000) {pid : Nat} {k : Int} {p p' : PS} {t : Tk} {r : Nd} (ht : lookF T p = some t) (hk' : (t.kind = 1 ∧ k = 1) ∨ (t.kind = 2 ∧ k = 2) ∨ (t.kind = 3 ∧ k = 4) ∨ (t.kind = 4 ∧ k = 5)) (h : leafR T k p = some (r,p')) {K : SV → St → Prop} {st : St} (hp : DAt T pid p st) (hk : K (ndSV r) (st.set pid (.cells (dpL T p')))) : ACalls Tryz.prog 98 [.ptr pid 0] K st := by
  refine acalls_leK (acalls_go_mod [] Tryz.func98 rfl Tryz.results98 Tryz.ntmps98 ?_)
  rcases hk' with ⟨g,rfl⟩ | ⟨g,rfl⟩ | ⟨g,rfl⟩ | ⟨g,rfl⟩
  · have d1 : (t.kind == 1) = true := by simp [g]
    simp only [go_sem]
    refine dat_t ht (dat_app hp) ?_
    simp only [go_sem]
    refine dkind_c ht (dat_app hp) ?_
    simp only [go_sem,d1]
    refine dleaf_c hT h (dat_app hp) ?_
    simp only [go_sem,inS_get hp]
    exact find_nd' hk
  · have d1 : (t.kind == 1) = false := by simp [g]
    have d2 : (t.kind == 2) = true := by simp [g]
    simp only [go_sem]
    refine dat_t ht (dat_app hp) ?_
    simp only [go_sem]
    refine dkind_c ht (dat_app hp) ?_
    simp only [go_sem,d1,d2]
    refine dleaf_c hT h (dat_app hp) ?_
    simp only [go_sem,inS_get hp]
    exact find_nd' hk
  · have d1 : (t.kind == 1) = false := by simp [g]
    have d2 : (t.kind == 2) = false := by simp [g]
    have d3 : (t.kind == 3) = true := by simp [g]
    simp only [go_sem]
    refine dat_t ht (dat_app hp) ?_
    simp only [go_sem]
    refine dkind_c ht (dat_app hp) ?_
    simp only [go_sem,d1,d2,d3]
    refine dleaf_c hT h (dat_app hp) ?_
    simp only [go_sem,inS_get hp]
    exact find_nd' hk
  · have d1 : (t.kind == 1) = false := by simp [g]
    have d2 : (t.kind == 2) = false := by simp [g]
    have d3 : (t.kind == 3) = false := by simp [g]
    have d4 : (t.kind == 4) = true := by simp [g]
    simp only [go_sem]
    refine dat_t ht (dat_app hp) ?_
    simp only [go_sem]
    refine dkind_c ht (dat_app hp) ?_
    simp only [go_sem,d1,d2,d3,d4]
    refine dleaf_c hT h (dat_app hp) ?_
    simp only [go_sem,inS_get hp]
    exact find_nd' hk
theorem datomN_c {T : List Tk} (hT : T.length ≤ 100000) {pid : Nat} {e pt : PM Nd} (hw : DC T pid 113 (wholeR e)) (hpt : DC T pid 114 pt) {p p' : PS} {t : Tk} {r : Nd} (ht : lookF T p = some t) (g : ¬ t.kind = 1 ∧ ¬ t.kind = 2 ∧ ¬ t.kind = 3 ∧ ¬ t.kind = 4)
    (b1 : isT t [114,101,116,114,121] = false) (b2 : isT t [109,97,116,99,104] = false) (b3 : isT t [116,114,121] = false) (b4 : isT t [40] = false) (h : ((failF T 14 p).map fun p1 => (nd0,p1)) = some (r,p')) {K : SV → St → Prop} {st : St} (hp : DAt T pid p st) (hk : K (ndSV r) (st.set pid (.cells (dpL T p')))) : ACalls Tryz.prog 98 [.ptr pid 0] K st := by
  refine acalls_leK (acalls_go_mod [] Tryz.func98 rfl Tryz.results98 Tryz.ntmps98 ?_)
  have d1 : (t.kind == 1) = false := by simp [g.1]
  have d2 : (t.kind == 2) = false := by simp [g.2.1]
  have d3 : (t.kind == 3) = false := by simp [g.2.2.1]
  have d4 : (t.kind == 4) = false := by simp [g.2.2.2]
  simp only [Option.map_eq_some_iff,Prod.mk.injEq] at h
  obtain ⟨q,h1,rfl,rfl⟩ := h
  simp only [go_sem]
  refine dat_t ht (dat_app hp) ?_
  simp only [go_sem]
  refine dkind_c ht (dat_app hp) ?_
  simp only [go_sem,d1,d2,d3,d4]
  refine dis_t ht b1 (dat_app hp) ?_
  simp only [go_sem]
  refine dis_t ht b2 (dat_app hp) ?_
  simp only [go_sem]
  refine dis_t ht b3 (dat_app hp) ?_
  simp only [go_sem]
  refine dis_t ht b4 (dat_app hp) ?_
  simp only [go_sem]
  refine dfail_c h1 (dat_app hp) fun _ => ?_
  simp only [go_sem,inS_get hp]
  exact find_nd (m1 := .full) (m2 := .full) (z1 := 0) (z2 := 0) (nd := nd0) hk (.inr rfl) (.inr rfl)
theorem datomR_c {T : List Tk} (hT : T.length ≤ 100000) {pid : Nat} {e pt : PM Nd} (hw : DC T pid 113 (wholeR e)) (hpt : DC T pid 114 pt) {p p' : PS} {t : Tk} {r : Nd} (ht : lookF T p = some t) (g : ¬ t.kind = 1 ∧ ¬ t.kind = 2 ∧ ¬ t.kind = 3 ∧ ¬ t.kind = 4)
    (b1 : isT t [114,101,116,114,121] = true) (b2 : isT t [109,97,116,99,104] = false) (b3 : isT t [116,114,121] = false) (b4 : isT t [40] = false) (h : ((stepR T p).map fun r => (nodeF 19 t.pos [] [],r.2)) = some (r,p')) {K : SV → St → Prop} {st : St} (hp : DAt T pid p st) (hk : K (ndSV r) (st.set pid (.cells (dpL T p')))) : ACalls Tryz.prog 98 [.ptr pid 0] K st := by
  refine acalls_leK (acalls_go_mod [] Tryz.func98 rfl Tryz.results98 Tryz.ntmps98 ?_)
  have d1 : (t.kind == 1) = false := by simp [g.1]
  have d2 : (t.kind == 2) = false := by simp [g.2.1]
  have d3 : (t.kind == 3) = false := by simp [g.2.2.1]
  have d4 : (t.kind == 4) = false := by simp [g.2.2.2]
  simp only [Option.map_eq_some_iff,Prod.exists,Prod.mk.injEq] at h
  obtain ⟨u,q,h1,rfl,rfl⟩ := h
  simp only [go_sem]
  refine dat_t ht (dat_app hp) ?_
  simp only [go_sem]
  refine dkind_c ht (dat_app hp) ?_
  simp only [go_sem,d1,d2,d3,d4]
  refine dis_t ht b1 (dat_app hp) ?_
  simp only [go_sem]
  refine dis_t ht b2 (dat_app hp) ?_
  simp only [go_sem]
  refine dis_t ht b3 (dat_app hp) ?_
  simp only [go_sem]
  refine dis_t ht b4 (dat_app hp) ?_
  simp only [go_sem]
  refine dstep_c hT h1 (dat_app hp) ?_
  simp only [go_sem,inS_get hp]
  exact find_nd (m1 := .full) (m2 := .full) (z1 := 0) (z2 := 0) (nd := nodeF 19 t.pos [] []) hk (.inr rfl) (.inr rfl)
theorem datomO_c {T : List Tk} (hT : T.length ≤ 100000) {pid : Nat} {e pt : PM Nd} (hw : DC T pid 113 (wholeR e)) (hpt : DC T pid 114 pt) {p p' : PS} {t : Tk} {r : Nd} (ht : lookF T p = some t) (g : ¬ t.kind = 1 ∧ ¬ t.kind = 2 ∧ ¬ t.kind = 3 ∧ ¬ t.kind = 4)
    (b1 : isT t [114,101,116,114,121] = false) (b2 : isT t [109,97,116,99,104] = false) (b3 : isT t [116,114,121] = false) (b4 : isT t [40] = true) (h : ((stepR T p).bind fun r => (mayF T [41] r.2).bind fun q => if q.1 then some (nodeF 3 t.pos [] [],q.2) else (wholeR e q.2).bind fun u => (mustF T [41] u.2).map fun p1 => (u.1,p1)) = some (r,p')) {K : SV → St → Prop} {st : St} (hp : DAt T pid p st) (hk : K (ndSV r) (st.set pid (.cells (dpL T p')))) : ACalls Tryz.prog 98 [.ptr pid 0] K st := by
  refine acalls_leK (acalls_go_mod [] Tryz.func98 rfl Tryz.results98 Tryz.ntmps98 ?_)
  have d1 : (t.kind == 1) = false := by simp [g.1]
  have d2 : (t.kind == 2) = false := by simp [g.2.1]
  have d3 : (t.kind == 3) = false := by simp [g.2.2.1]
  have d4 : (t.kind == 4) = false := by simp [g.2.2.2]
  simp only [Option.bind_eq_some_iff,Prod.exists] at h
  obtain ⟨u,p1,h1,b,p2,h2,h⟩ := h
  obtain ⟨t2,g1,g2,g3,g4,g5⟩ := may_is h2
  cases b with
  | true =>
    rw [if_pos rfl] at h
    cases h
    simp only [go_sem]
    refine dat_t ht (dat_app hp) ?_
    simp only [go_sem]
    refine dkind_c ht (dat_app hp) ?_
    simp only [go_sem,d1,d2,d3,d4]
    refine dis_t ht b1 (dat_app hp) ?_
    simp only [go_sem]
    refine dis_t ht b2 (dat_app hp) ?_
    simp only [go_sem]
    refine dis_t ht b3 (dat_app hp) ?_
    simp only [go_sem]
    refine dis_t ht b4 (dat_app hp) ?_
    simp only [go_sem]
    refine dstep_c hT h1 (dat_app hp) ?_
    simp only [go_sem,inS_get hp]
    refine dis_c g3 (dat_seta hp) ?_
    simp only [go_sem,inS_get hp]
    first | (unfold ACallsH; simp only [put_some,put_none',ev_tmp,List.set_cons_succ,List.set_cons_zero,List.getD_cons_succ,List.getD_cons_zero]) | skip
    refine dstep_c hT (g4 rfl).1 (dat_seta hp) ?_
    simp only [go_sem,inS_get hp]
    exact find_nd (m1 := .full) (m2 := .full) (z1 := 0) (z2 := 0) (nd := nodeF 3 t.pos [] []) hk (.inr rfl) (.inr rfl)
  | false =>
    obtain rfl := g5 rfl
    rw [if_neg (by decide)] at h
    simp only [Option.bind_eq_some_iff,Option.map_eq_some_iff,Prod.exists,Prod.mk.injEq] at h
    obtain ⟨x,p3,h3,p4,h4,rfl,rfl⟩ := h
    simp only [go_sem]
    refine dat_t ht (dat_app hp) ?_
    simp only [go_sem]
    refine dkind_c ht (dat_app hp) ?_
    simp only [go_sem,d1,d2,d3,d4]
    refine dis_t ht b1 (dat_app hp) ?_
    simp only [go_sem]
    refine dis_t ht b2 (dat_app hp) ?_
    simp only [go_sem]
    refine dis_t ht b3 (dat_app hp) ?_
    simp only [go_sem]
    refine dis_t ht b4 (dat_app hp) ?_
    simp only [go_sem]
    refine dstep_c hT h1 (dat_app hp) ?_
    simp only [go_sem,inS_get hp]
    refine dis_c g3 (dat_seta hp) ?_
    simp only [go_sem,inS_get hp]
    first | (unfold ACallsH; simp only [put_some,put_none',ev_tmp,List.set_cons_succ,List.set_cons_zero,List.getD_cons_succ,List.getD_cons_zero]) | skip
    refine hw _ _ _ h3 _ _ (dat_seta hp) ?_
    simp only [go_sem,inS_get hp]
    first | (unfold ACallsH; simp only [put_some,put_none',ev_tmp,List.set_cons_succ,List.set_cons_zero,List.getD_cons_succ,List.getD_cons_zero]) | skip
    refine dwant_c hT h4 (dat_seta hp) fun _ => ?_
    simp only [go_sem,inS_get hp]
    exact find_nd' hk
theorem datomT_c {T : List Tk} (hT : T.length ≤ 100000) {pid : Nat} {e pt : PM Nd} (hw : DC T pid 113 (wholeR e)) (hpt : DC T pid 114 pt) {p p' : PS} {t : Tk} {r : Nd} (ht : lookF T p = some t) (g : ¬ t.kind = 1 ∧ ¬ t.kind = 2 ∧ ¬ t.kind = 3 ∧ ¬ t.kind = 4)
    (b1 : isT t [114,101,116,114,121] = false) (b2 : isT t [109,97,116,99,104] = false) (b3 : isT t [116,114,121] = true) (b4 : isT t [40] = false) (h : ((stepR T p).bind fun r => (wholeR e r.2).bind fun q => (mustF T [119,105,116,104] q.2).bind fun p1 => tryR T e t.pos q.1 p1) = some (r,p')) {K : SV → St → Prop} {st : St} (hp : DAt T pid p st) (hk : K (ndSV r) (st.set pid (.cells (dpL T p')))) : ACalls Tryz.prog 98 [.ptr pid 0] K st := by
  refine acalls_leK (acalls_go_mod [] Tryz.func98 rfl Tryz.results98 Tryz.ntmps98 ?_)
  have d1 : (t.kind == 1) = false := by simp [g.1]
  have d2 : (t.kind == 2) = false := by simp [g.2.1]
  have d3 : (t.kind == 3) = false := by simp [g.2.2.1]
  have d4 : (t.kind == 4) = false := by simp [g.2.2.2]
  unfold tryR at h
  simp only [Option.bind_eq_some_iff,Option.map_eq_some_iff,Prod.exists,Prod.mk.injEq] at h
  obtain ⟨u,p1,h1,x,p2,h2,p3,h3,s,p4,h4,p5,h5,v,p6,h6,p7,h7,rfl,rfl⟩ := h
  simp only [go_sem]
  refine dat_t ht (dat_app hp) ?_
  simp only [go_sem]
  refine dkind_c ht (dat_app hp) ?_
  simp only [go_sem,d1,d2,d3,d4]
  refine dis_t ht b1 (dat_app hp) ?_
  simp only [go_sem]
  refine dis_t ht b2 (dat_app hp) ?_
  simp only [go_sem]
  refine dis_t ht b3 (dat_app hp) ?_
  simp only [go_sem]
  refine dis_t ht b4 (dat_app hp) ?_
  simp only [go_sem]
  refine dstep_c hT h1 (dat_app hp) ?_
  simp only [go_sem,inS_get hp]
  refine awp_ownC (st.length + 1) 5 6 0 (get_sx 1) (by simp) rfl ?_
  rw [set_sx]
  simp only [List.length_append,len_sx,List.length_cons,List.length_nil,List.set_cons_succ,List.set_cons_zero,List.append_assoc,List.cons_append,List.nil_append,Nat.zero_add,Nat.reduceAdd]
  refine awp_drawW [] [(0,[5]),(0,[5]),(0,[]),(3,[5]),(0,[]),(3,[7]),(0,[]),(1,[8])] Tryz.mixed rfl ?_
  simp only [go_sem,drawW_n,drawW_0,drawW_1,drawW_2,drawW_3,pend_n,pend_c,headD_c,isStore_s]
  refine ⟨_,_,hw _ _ _ h2 _ _ (dat_seta hp) ⟨rfl,rfl⟩,?_⟩
  simp only [go_sem,drawW_n,drawW_0,drawW_1,drawW_2,drawW_3,pend_n,pend_c,headD_c,isStore_s,inS_get hp]
  rw [dk_eff]
  refine ⟨.slice .full 6 [ndSV x],?_,?_⟩
  · simp only [go_sem]
    exact ⟨⟨[],by simp⟩,ids_nds _ _ (.inr rfl) _ [_],.inl rfl⟩
  simp only [go_sem,drawW_n,drawW_0,drawW_1,drawW_2,drawW_3,pend_n,pend_c,headD_c,isStore_s]
  refine ⟨_,_,⟨Tryz.app6 (by simp),rfl,rfl⟩,?_⟩
  simp only [go_sem]
  first | (unfold ACallsH; simp only [put_some,put_none',ev_tmp,List.set_cons_succ,List.set_cons_zero,List.getD_cons_succ,List.getD_cons_zero]) | skip
  refine dwant_c hT h3 (dat_seta hp) fun _ => ?_
  simp only [go_sem,inS_get hp]
  first | (unfold ACallsH; simp only [put_some,put_none',ev_tmp,List.set_cons_succ,List.set_cons_zero,List.getD_cons_succ,List.getD_cons_zero]) | skip
  refine dtext_c hT (by decide) h4 (dat_seta hp) ?_
  simp only [go_sem,inS_get hp]
  first | (unfold ACallsH; simp only [put_some,put_none',ev_tmp,List.set_cons_succ,List.set_cons_zero,List.getD_cons_succ,List.getD_cons_zero]) | skip
  refine dwant_c hT h5 (dat_seta hp) fun _ => ?_
  simp only [go_sem,inS_get hp]
  refine awp_drawW [] [(0,[5]),(0,[5]),(0,[]),(3,[5]),(0,[]),(3,[7]),(0,[]),(1,[8])] Tryz.mixed rfl ?_
  simp only [go_sem,drawW_n,drawW_0,drawW_1,drawW_2,drawW_3,pend_n,pend_c,headD_c,isStore_s]
  refine ⟨_,_,hw _ _ _ h6 _ _ (dat_seta hp) ⟨rfl,rfl⟩,?_⟩
  simp only [go_sem,drawW_n,drawW_0,drawW_1,drawW_2,drawW_3,pend_n,pend_c,headD_c,isStore_s,inS_get hp]
  rw [dk_eff]
  refine ⟨.slice .full 6 [ndSV v],?_,?_⟩
  · simp only [go_sem]
    exact ⟨⟨[],by simp⟩,ids_nds _ _ (.inr rfl) _ [_],.inl rfl⟩
  simp only [go_sem,drawW_n,drawW_0,drawW_1,drawW_2,drawW_3,pend_n,pend_c,headD_c,isStore_s]
  refine ⟨_,_,⟨Tryz.app6 (by simp),rfl,rfl⟩,?_⟩
  simp only [go_sem]
  first | (unfold ACallsH; simp only [put_some,put_none',ev_tmp,List.set_cons_succ,List.set_cons_zero,List.getD_cons_succ,List.getD_cons_zero]) | skip
  refine dwant_c hT h7 (dat_seta hp) fun _ => ?_
  simp only [go_sem,inS_get hp]
  exact find_own (nd := nodeF 12 t.pos s [x,v]) hk rfl
theorem datomM_c {T : List Tk} (hT : T.length ≤ 100000) {pid : Nat} {e pt : PM Nd} (hw : DC T pid 113 (wholeR e)) (hpt : DC T pid 114 pt) {p p' : PS} {t : Tk} {r : Nd} (ht : lookF T p = some t) (g : ¬ t.kind = 1 ∧ ¬ t.kind = 2 ∧ ¬ t.kind = 3 ∧ ¬ t.kind = 4)
    (b1 : isT t [114,101,116,114,121] = false) (b2 : isT t [109,97,116,99,104] = true) (b3 : isT t [116,114,121] = false) (b4 : isT t [40] = false) (h : ((stepR T p).bind fun r => (wholeR e r.2).bind fun q => (mustF T [119,105,116,104] q.2).bind fun p1 => matchR T e pt t.pos q.1 p1) = some (r,p')) {K : SV → St → Prop} {st : St} (hp : DAt T pid p st) (hk : K (ndSV r) (st.set pid (.cells (dpL T p')))) : ACalls Tryz.prog 98 [.ptr pid 0] K st := by
  refine acalls_leK (acalls_go_mod [] Tryz.func98 rfl Tryz.results98 Tryz.ntmps98 ?_)
  have d1 : (t.kind == 1) = false := by simp [g.1]
  have d2 : (t.kind == 2) = false := by simp [g.2.1]
  have d3 : (t.kind == 3) = false := by simp [g.2.2.1]
  have d4 : (t.kind == 4) = false := by simp [g.2.2.2]
  unfold matchR at h
  simp only [Option.bind_eq_some_iff,Option.map_eq_some_iff,Prod.exists,Prod.mk.injEq] at h
  obtain ⟨u,p1,h1,x,p2,h2,p3,h3,n1,p4,hL,p5,h5,rfl,rfl⟩ := h
  simp only [go_sem]
  refine dat_t ht (dat_app hp) ?_
  simp only [go_sem]
  refine dkind_c ht (dat_app hp) ?_
  simp only [go_sem,d1,d2,d3,d4]
  refine dis_t ht b1 (dat_app hp) ?_
  simp only [go_sem]
  refine dis_t ht b2 (dat_app hp) ?_
  simp only [go_sem]
  refine dis_t ht b3 (dat_app hp) ?_
  simp only [go_sem]
  refine dis_t ht b4 (dat_app hp) ?_
  simp only [go_sem]
  refine dstep_c hT h1 (dat_app hp) ?_
  simp only [go_sem,inS_get hp]
  refine awp_ownC (st.length + 1) 5 6 0 (get_sx 1) (by simp) rfl ?_
  rw [set_sx]
  simp only [List.length_append,len_sx,List.length_cons,List.length_nil,List.set_cons_succ,List.set_cons_zero,List.append_assoc,List.cons_append,List.nil_append,Nat.zero_add,Nat.reduceAdd]
  refine awp_drawW [] [(0,[5]),(0,[5]),(0,[]),(3,[5]),(0,[]),(3,[7]),(0,[]),(1,[8])] Tryz.mixed rfl ?_
  simp only [go_sem,drawW_n,drawW_0,drawW_1,drawW_2,drawW_3,pend_n,pend_c,headD_c,isStore_s]
  refine ⟨_,_,hw _ _ _ h2 _ _ (dat_seta hp) ⟨rfl,rfl⟩,?_⟩
  simp only [go_sem,drawW_n,drawW_0,drawW_1,drawW_2,drawW_3,pend_n,pend_c,headD_c,isStore_s,inS_get hp]
  rw [dk_eff]
  refine ⟨.slice .full 6 [ndSV x],?_,?_⟩
  · simp only [go_sem]
    exact ⟨⟨[],by simp⟩,ids_nds _ _ (.inr rfl) _ [_],.inl rfl⟩
  simp only [go_sem,drawW_n,drawW_0,drawW_1,drawW_2,drawW_3,pend_n,pend_c,headD_c,isStore_s]
  refine ⟨_,_,⟨Tryz.app6 (by simp),rfl,rfl⟩,?_⟩
  simp only [go_sem]
  first | (unfold ACallsH; simp only [put_some,put_none',ev_tmp,List.set_cons_succ,List.set_cons_zero,List.getD_cons_succ,List.getD_cons_zero]) | skip
  refine dwant_c hT h3 (dat_seta hp) fun _ => ?_
  simp only [go_sem,inS_get hp]
  refine awp_rounds [] (fun m env s => ∃ (nd : Nd) (q : PS) (k : Nat) (more : Bool) (ex : St),matchRL T e pt m more nd q = some (n1,p4) ∧ 2 * m + nd.kids.length ≤ 2 * T.length + 10 ∧ nd.names = [] ∧ env = [.ptr pid 0,.any,.ptr st.length 0,.ptr (st.length + 1) 0,.any,.any,.any,.any,.any,.any,.sc (.bool more),.any,.any,.any,.any,.any,.any,.any,.any,.any,.any,.any,.any,.any,.any,.any,.any,.any,.any,.any,.any,.any,.any,.any,.any,.any,.any,.any,.any,.any,.any,.any,.any,.any,.any,.any,.any,.any,.any,.any,.any,.any,.any,.any,.any,.any,.any,.any,.any,.any,.any,.any,.any,.any,.any,.any,.any,.any,.any,.any,.any,.any,.any,.any,.any,.any,.any,.any,.any,.any,.any,.any,.any,.any,.any,.any,.any,.any,.any,.any,.any,.any,.any,.any,.any,.any,.any,.any,.any,.any,.any,.any,.any,.any,.any,.any,.any,.any,.any,.any,.any,.any,.any,.any,.any,.any,.any,.any,.any,.any,.any,.any,.any,.any,.any,.any,.any,.any,.any,.any,.any,.any] ∧
    s = st.set pid (.cells (dpL T q)) ++ (.cells zNd :: .cells (ndOwn (st.length + 2) k nd) :: .tok k :: ex)) (n := T.length + 2) ?_ ⟨nodeF 11 t.pos [] [x],_,1,true,[],hL,by simp [nodeF,Nd.kids]; omega,rfl,rfl,rfl⟩ ?_
  · repeat (first | exact leEnv_nil | refine leEnv_any _ ?_ | refine leEnv_same _ ?_ | refine leEnv_norm _ ?_)
  rintro m env s ⟨nd,q,k,more,ex,hl,hm,hnm,rfl,rfl⟩
  cases m with
  | zero => cases hl
  | succ m =>
  unfold matchRL at hl
  unfold ndOwn zNd
  cases more with
  | false =>
    rw [if_neg (by decide)] at hl
    cases hl
    simp only [go_sem]
    refine dwant_c hT h5 (dat_seta hp) fun _ => ?_
    simp only [go_sem,inS_get hp]
    exact find_own hk hnm
  | true =>
    rw [if_pos rfl] at hl
    simp only [Option.bind_eq_some_iff,Prod.exists] at hl
    obtain ⟨q1,c1,q2,c2,y,q3,c3,q4,c4,w,q5,c5,b,c6,hl⟩ := hl
    have hkid : ((nd.addKid y).addKid w).kids.length = nd.kids.length + 2 := by rw [ak_kids,ak_kids]; simp
    by_cases l4 : nd.kids.length = 41
    · have l1 : ((nd.kids.length : Int) == 41) = true := by simp [l4]
      unfold capR at c1
      rw [if_pos l4] at c1
      simp only [go_sem,List.length_map,l1]
      refine dfail_c c1 (dat_seta hp) fun _ => ?_
      simp only [go_sem,inS_get hp]
      first | (unfold ACallsH; simp only [put_some,put_none',ev_tmp,List.set_cons_succ,List.set_cons_zero,List.getD_cons_succ,List.getD_cons_zero]) | skip
      refine dwant_c hT c2 (dat_seta hp) fun _ => ?_
      simp only [go_sem,inS_get hp]
      refine awp_drawW [] [(0,[5]),(0,[5]),(0,[]),(3,[5]),(0,[]),(3,[7]),(0,[]),(1,[8])] Tryz.mixed rfl ?_
      simp only [go_sem,drawW_n,drawW_0,drawW_1,drawW_2,drawW_3,pend_n,pend_c,headD_c,isStore_s]
      refine ⟨_,_,hpt _ _ _ c3 _ _ (dat_seta hp) ⟨rfl,rfl⟩,?_⟩
      simp only [go_sem,drawW_n,drawW_0,drawW_1,drawW_2,drawW_3,pend_n,pend_c,headD_c,isStore_s,inS_get hp]
      rw [dk_eff]
      refine ⟨.slice .full 6 [ndSV y],?_,?_⟩
      · simp only [go_sem]
        exact ⟨⟨[],by simp⟩,ids_nds _ _ (.inr rfl) _ [_],.inl rfl⟩
      simp only [go_sem,drawW_n,drawW_0,drawW_1,drawW_2,drawW_3,pend_n,pend_c,headD_c,isStore_s]
      refine ⟨_,_,⟨Tryz.app6 (by omega),rfl,rfl⟩,?_⟩
      simp only [go_sem]
      first | (unfold ACallsH; simp only [put_some,put_none',ev_tmp,List.set_cons_succ,List.set_cons_zero,List.getD_cons_succ,List.getD_cons_zero]) | skip
      refine dwant_c hT c4 (dat_seta hp) fun _ => ?_
      simp only [go_sem,inS_get hp]
      refine awp_drawW [] [(0,[5]),(0,[5]),(0,[]),(3,[5]),(0,[]),(3,[7]),(0,[]),(1,[8])] Tryz.mixed rfl ?_
      simp only [go_sem,drawW_n,drawW_0,drawW_1,drawW_2,drawW_3,pend_n,pend_c,headD_c,isStore_s]
      refine ⟨_,_,hw _ _ _ c5 _ _ (dat_seta hp) ⟨rfl,rfl⟩,?_⟩
      simp only [go_sem,drawW_n,drawW_0,drawW_1,drawW_2,drawW_3,pend_n,pend_c,headD_c,isStore_s,inS_get hp]
      rw [dk_eff]
      refine ⟨.slice .full 6 [ndSV w],?_,?_⟩
      · simp only [go_sem]
        exact ⟨⟨[],by simp⟩,ids_nds _ _ (.inr rfl) _ [_],.inl rfl⟩
      simp only [go_sem,drawW_n,drawW_0,drawW_1,drawW_2,drawW_3,pend_n,pend_c,headD_c,isStore_s]
      refine ⟨_,_,⟨Tryz.app6 (by simp; omega),rfl,rfl⟩,?_⟩
      simp only [go_sem]
      first | (unfold ACallsH; simp only [put_some,put_none',ev_tmp,List.set_cons_succ,List.set_cons_zero,List.getD_cons_succ,List.getD_cons_zero]) | skip
      refine dis_c c6 (dat_seta hp) ?_
      simp only [go_sem,inS_get hp]
      refine ⟨m,_,by omega,?_,(nd.addKid y).addKid w,q5,k + 2,b,_,hl,by rw [hkid]; omega,by rw [ak_names,ak_names]; exact hnm,rfl,by rw [ak_kind,ak_kind,ak_text,ak_text,ak_num,ak_num,ak_pos,ak_pos,ak_kids,ak_kids,List.map_append,List.map_append,List.append_assoc]; rfl⟩
      repeat (first | exact leEnv_nil | refine leEnv_any _ ?_ | refine leEnv_same _ ?_ | refine leEnv_norm _ ?_)
    · have l1 : ((nd.kids.length : Int) == 41) = false := by simp; omega
      unfold capR at c1
      rw [if_neg l4] at c1
      cases c1
      simp only [go_sem,List.length_map,l1]
      first | (unfold ACallsH; simp only [put_some,put_none',ev_tmp,List.set_cons_succ,List.set_cons_zero,List.getD_cons_succ,List.getD_cons_zero]) | skip
      refine dwant_c hT c2 (dat_seta hp) fun _ => ?_
      simp only [go_sem,inS_get hp]
      refine awp_drawW [] [(0,[5]),(0,[5]),(0,[]),(3,[5]),(0,[]),(3,[7]),(0,[]),(1,[8])] Tryz.mixed rfl ?_
      simp only [go_sem,drawW_n,drawW_0,drawW_1,drawW_2,drawW_3,pend_n,pend_c,headD_c,isStore_s]
      refine ⟨_,_,hpt _ _ _ c3 _ _ (dat_seta hp) ⟨rfl,rfl⟩,?_⟩
      simp only [go_sem,drawW_n,drawW_0,drawW_1,drawW_2,drawW_3,pend_n,pend_c,headD_c,isStore_s,inS_get hp]
      rw [dk_eff]
      refine ⟨.slice .full 6 [ndSV y],?_,?_⟩
      · simp only [go_sem]
        exact ⟨⟨[],by simp⟩,ids_nds _ _ (.inr rfl) _ [_],.inl rfl⟩
      simp only [go_sem,drawW_n,drawW_0,drawW_1,drawW_2,drawW_3,pend_n,pend_c,headD_c,isStore_s]
      refine ⟨_,_,⟨Tryz.app6 (by omega),rfl,rfl⟩,?_⟩
      simp only [go_sem]
      first | (unfold ACallsH; simp only [put_some,put_none',ev_tmp,List.set_cons_succ,List.set_cons_zero,List.getD_cons_succ,List.getD_cons_zero]) | skip
      refine dwant_c hT c4 (dat_seta hp) fun _ => ?_
      simp only [go_sem,inS_get hp]
      refine awp_drawW [] [(0,[5]),(0,[5]),(0,[]),(3,[5]),(0,[]),(3,[7]),(0,[]),(1,[8])] Tryz.mixed rfl ?_
      simp only [go_sem,drawW_n,drawW_0,drawW_1,drawW_2,drawW_3,pend_n,pend_c,headD_c,isStore_s]
      refine ⟨_,_,hw _ _ _ c5 _ _ (dat_seta hp) ⟨rfl,rfl⟩,?_⟩
      simp only [go_sem,drawW_n,drawW_0,drawW_1,drawW_2,drawW_3,pend_n,pend_c,headD_c,isStore_s,inS_get hp]
      rw [dk_eff]
      refine ⟨.slice .full 6 [ndSV w],?_,?_⟩
      · simp only [go_sem]
        exact ⟨⟨[],by simp⟩,ids_nds _ _ (.inr rfl) _ [_],.inl rfl⟩
      simp only [go_sem,drawW_n,drawW_0,drawW_1,drawW_2,drawW_3,pend_n,pend_c,headD_c,isStore_s]
      refine ⟨_,_,⟨Tryz.app6 (by simp; omega),rfl,rfl⟩,?_⟩
      simp only [go_sem]
      first | (unfold ACallsH; simp only [put_some,put_none',ev_tmp,List.set_cons_succ,List.set_cons_zero,List.getD_cons_succ,List.getD_cons_zero]) | skip
      refine dis_c c6 (dat_seta hp) ?_
      simp only [go_sem,inS_get hp]
      refine ⟨m,_,by omega,?_,(nd.addKid y).addKid w,q5,k + 2,b,_,hl,by rw [hkid]; omega,by rw [ak_names,ak_names]; exact hnm,rfl,by rw [ak_kind,ak_kind,ak_text,ak_text,ak_num,ak_num,ak_pos,ak_pos,ak_kids,ak_kids,List.map_append,List.map_append,List.append_assoc]; rfl⟩
      repeat (first | exact leEnv_nil | refine leEnv_any _ ?_ | refine leEnv_same _ ?_ | refine leEnv_norm _ ?_)
theorem datom_c {T : List Tk} (hT : T.length ≤ 100000) {pid : Nat} {e pt : PM Nd} (hw : DC T pid 113 (wholeR e)) (hpt : DC T pid 114 pt) : DC T pid 98 (atomR T e pt) := by
  intro p r p' h K st hp hk
  unfold atomR at h
  rw [Option.bind_eq_some_iff] at h
  obtain ⟨t,ht,h⟩ := h
  by_cases k1 : t.kind = 1
  · rw [if_pos k1] at h; exact datomL_c hT ht (.inl ⟨k1,rfl⟩) h hp hk
  rw [if_neg k1] at h
  by_cases k2 : t.kind = 2
  · rw [if_pos k2] at h; exact datomL_c hT ht (.inr (.inl ⟨k2,rfl⟩)) h hp hk
  rw [if_neg k2] at h
  by_cases k3 : t.kind = 3
  · rw [if_pos k3] at h; exact datomL_c hT ht (.inr (.inr (.inl ⟨k3,rfl⟩))) h hp hk
  rw [if_neg k3] at h
  by_cases k4 : t.kind = 4
  · rw [if_pos k4] at h; exact datomL_c hT ht (.inr (.inr (.inr ⟨k4,rfl⟩))) h hp hk
  rw [if_neg k4] at h
  have no : ∀ {a b : Tx},isT t a = true → a ≠ b → isT t b = false := fun {a b} h1 h2 => by
    cases hb : isT t b with
    | false => rfl
    | true => exact absurd ((isT_iff.1 h1).2.symm.trans (isT_iff.1 hb).2) h2
  cases b1 : isT t [114,101,116,114,121] with
  | true =>
    rw [if_pos b1] at h
    exact datomR_c hT hw hpt ht ⟨k1,k2,k3,k4⟩ b1 (no b1 (by decide)) (no b1 (by decide)) (no b1 (by decide)) h hp hk
  | false =>
  rw [if_neg (by rw [b1]; decide)] at h
  cases b4 : isT t [40] with
  | true =>
    rw [if_pos b4] at h
    exact datomO_c hT hw hpt ht ⟨k1,k2,k3,k4⟩ b1 (no b4 (by decide)) (no b4 (by decide)) b4 h hp hk
  | false =>
  rw [if_neg (by rw [b4]; decide)] at h
  cases b3 : isT t [116,114,121] with
  | true =>
    rw [if_pos b3] at h
    exact datomT_c hT hw hpt ht ⟨k1,k2,k3,k4⟩ b1 (no b3 (by decide)) b3 b4 h hp hk
  | false =>
  rw [if_neg (by rw [b3]; decide)] at h
  cases b2 : isT t [109,97,116,99,104] with
  | true =>
    rw [if_pos b2] at h
    exact datomM_c hT hw hpt ht ⟨k1,k2,k3,k4⟩ b1 b2 b3 b4 h hp hk
  | false =>
  rw [if_neg (by rw [b2]; decide)] at h
  exact datomN_c hT hw hpt ht ⟨k1,k2,k3,k4⟩ b1 b2 b3 b4 h hp hk
end Go.Proofs
