import Derived.Test.YtnjiphlokjfdlaaGreatDoorW5
set_option maxHeartbeats 4000000
set_option linter.unusedSimpArgs false
set_option linter.unusedVariables false
set_option maxRecDepth 8000
namespace Go.AL
theorem ids_val (n : Nat) (x : Tx) (b : Bool) (v : Nd) : Ids n (.tuple [.sc (.string (ba x)),.sc (.bool b),ndSV v]) = True := eq_true (.tuple _ (by
  intro i hi
  match i with
  | 0 => exact .sc _
  | 1 => exact .sc _
  | 2 => exact ids_nd n v
  | i + 3 => simp at hi; omega))
theorem norm_val (x : Tx) (b : Bool) (v : Nd) : norm (.tuple [.sc (.string (ba x)),.sc (.bool b),ndSV v]) = .tuple [.sc (.string (ba x)),.sc (.bool b),ndSV v] := by
  show SV.tuple [_,_,norm1 (ndSV v)] = _
  rw [norm1_nd]; rfl
theorem pfacts {T : List Tk} {pid : Nat} {p : PS} {st : St} (hp : PAt T pid p st) : inS st pid = True ∧ isObj st pid = True ∧ objAt st pid = [.slice .imm 4 (T.map tkSV),.sc (.int .i64 p.pos),.sc (.int .i64 p.deep),.sc (.bool p.flat),.sc (.int .i64 p.bad),.sc (.int .i64 p.e)] := cells_facts hp
end Go.AL
namespace Go.Proofs
open Go Go.AL
def HV (T : List Tk) (pid : Nat) (f : FuncId) (e : PM (Tx × Bool × Nd)) : Prop := ∀ (p : PS) (nm : Tx) (rc : Bool) (v : Nd) (p' : PS),e p = some ((nm,rc,v),p') → ∀ (K : SV → St → Prop) (st : St),PAt T pid p st → K (.tuple [.sc (.string (ba nm)),.sc (.bool rc),ndSV v]) (st.set pid (.cells (psL T p'))) → ACalls Tryz.prog f [.ptr pid 0] K st
theorem value_c {T : List Tk} (hT : T.length ≤ 100000) {pid : Nat} {e : PM Nd} (he : HC T pid 45 e) : HV T pid 62 (valueF T e) := by
  intro p nm rc v p' h K st hp hk
  refine acalls_go_mod [] Tryz.func62 rfl Tryz.results62 Tryz.ntmps62 ?_
  unfold valueF isF at h
  simp only [Option.bind_eq_some_iff,Option.map_eq_some_iff,Prod.exists,Prod.mk.injEq] at h
  obtain ⟨b0,p1,h1,t1,p2,h2,p3,h3,p4,h4,v1,p5,h5,⟨rfl,rfl,rfl⟩,rfl⟩ := h
  have y1 := pfacts (psat_set (p' := p3) hp)
  cases b0 with
  | false =>
    simp only [Bool.false_eq_true,false_and,if_false,Option.some.injEq] at h4
    subst h4
    simp only [go_sem]
    refine may_c hT h1 (psat_app hp) ?_
    simp only [go_sem,inS_get hp]
    refine word_c hT h2 (psat_seta hp) ?_
    simp only [go_sem,inS_get hp]
    refine must_c hT h3 (psat_seta hp) fun _ => ?_
    simp only [go_sem,inS_get hp,y1.1,y1.2.1,y1.2.2]
    first | (unfold ACallsH; simp only [put_some,put_none',ev_tmp,List.set_cons_succ,List.set_cons_zero,List.getD_cons_succ,List.getD_cons_zero]) | skip
    refine in_c he rfl h5 (psat_seta hp) ?_
    simp only [go_sem,inS_get hp]
    exact fin_m (fun n => ids_val n t1.text false v1) hk (norm_val _ _ _)
  | true =>
    by_cases hd : p3.deep < 40
    · rw [if_pos ⟨rfl,hd⟩] at h4
      rw [Option.bind_eq_some_iff] at h4
      obtain ⟨b,h6,h4⟩ := h4
      have c1 : decide ((p3.deep : Int) < 40) = true := by simp; omega
      rw [Option.map_eq_some_iff] at h6
      obtain ⟨t,h6,rfl⟩ := h6
      cases hb : isT t [102,117,110] with
      | true =>
        rw [hb] at h4
        rw [if_pos rfl] at h4
        cases h4
        simp only [go_sem]
        refine may_c hT h1 (psat_app hp) ?_
        simp only [go_sem,inS_get hp]
        refine word_c hT h2 (psat_seta hp) ?_
        simp only [go_sem,inS_get hp]
        refine must_c hT h3 (psat_seta hp) fun _ => ?_
        unfold psL
        simp only [go_sem,inS_get hp,y1.1,y1.2.1,y1.2.2,c1]
        first | (unfold ACallsH; simp only [put_some,put_none',ev_tmp,List.set_cons_succ,List.set_cons_zero,List.getD_cons_succ,List.getD_cons_zero]) | skip
        refine is_c h6 (psat_seta hp) ?_
        simp only [go_sem,inS_get hp,hb,c1]
        first | (unfold ACallsH; simp only [put_some,put_none',ev_tmp,List.set_cons_succ,List.set_cons_zero,List.getD_cons_succ,List.getD_cons_zero]) | skip
        refine in_c he rfl h5 (psat_seta hp) ?_
        simp only [go_sem,inS_get hp]
        exact fin_m (fun n => ids_val n t1.text true v1) hk (norm_val _ _ _)
      | false =>
        rw [hb] at h4
        rw [if_neg (by simp)] at h4
        simp only [go_sem]
        refine may_c hT h1 (psat_app hp) ?_
        simp only [go_sem,inS_get hp]
        refine word_c hT h2 (psat_seta hp) ?_
        simp only [go_sem,inS_get hp]
        refine must_c hT h3 (psat_seta hp) fun _ => ?_
        unfold psL
        simp only [go_sem,inS_get hp,y1.1,y1.2.1,y1.2.2,c1]
        first | (unfold ACallsH; simp only [put_some,put_none',ev_tmp,List.set_cons_succ,List.set_cons_zero,List.getD_cons_succ,List.getD_cons_zero]) | skip
        refine is_c h6 (psat_seta hp) ?_
        simp only [go_sem,inS_get hp,hb,c1]
        first | (unfold ACallsH; simp only [put_some,put_none',ev_tmp,List.set_cons_succ,List.set_cons_zero,List.getD_cons_succ,List.getD_cons_zero]) | skip
        refine fail_c h4 (psat_seta hp) fun _ => ?_
        simp only [go_sem,inS_get hp]
        first | (unfold ACallsH; simp only [put_some,put_none',ev_tmp,List.set_cons_succ,List.set_cons_zero,List.getD_cons_succ,List.getD_cons_zero]) | skip
        refine in_c he rfl h5 (psat_seta hp) ?_
        simp only [go_sem,inS_get hp]
        exact fin_m (fun n => ids_val n t1.text true v1) hk (norm_val _ _ _)
    · rw [if_neg (by simp [hd])] at h4
      cases h4
      have c1 : decide ((p3.deep : Int) < 40) = false := by simp; omega
      simp only [go_sem]
      refine may_c hT h1 (psat_app hp) ?_
      simp only [go_sem,inS_get hp]
      refine word_c hT h2 (psat_seta hp) ?_
      simp only [go_sem,inS_get hp]
      refine must_c hT h3 (psat_seta hp) fun _ => ?_
      unfold psL
      simp only [go_sem,inS_get hp,y1.1,y1.2.1,y1.2.2,c1]
      first | (unfold ACallsH; simp only [put_some,put_none',ev_tmp,List.set_cons_succ,List.set_cons_zero,List.getD_cons_succ,List.getD_cons_zero]) | skip
      refine in_c he rfl h5 (psat_seta hp) ?_
      simp only [go_sem,inS_get hp]
      exact fin_m (fun n => ids_val n t1.text true v1) hk (norm_val _ _ _)
end Go.Proofs
namespace Go.Proofs
open Go Go.AL
theorem fun_c {T : List Tk} (hT : T.length ≤ 100000) {pid : Nat} {e : PM Nd} (he : HC T pid 45 e) : HC T pid 79 (funF T e) := by
  intro p r p' h K st hp hk
  refine acalls_leK (acalls_go_mod [] Tryz.func79 rfl Tryz.results79 Tryz.ntmps79 ?_)
  unfold funF at h
  simp only [Option.bind_eq_some_iff,Option.map_eq_some_iff,Prod.exists,Prod.mk.injEq] at h
  obtain ⟨t0,p1,h1,t1,p2,h2,p3,h3,x,p4,h4,rfl,rfl⟩ := h
  simp only [go_sem]
  refine take_c hT h1 (psat_app hp) ?_
  simp only [go_sem,inS_get hp]
  refine word_c hT h2 (psat_seta hp) ?_
  simp only [go_sem,inS_get hp]
  refine must_c hT h3 (psat_seta hp) fun _ => ?_
  simp only [go_sem,inS_get hp]
  refine in_c he rfl h4 (psat_seta hp) ?_
  simp only [go_sem,inS_get hp]
  refine node_c rfl rfl rfl rfl (fun _ => rfl) (ids_nds _ _ (.inr rfl) 6 [x]) ?_
  unfold ndFull
  simp only [go_sem,inS_get hp]
  exact fin_nd (z1 := 0) (z2 := 6) (m1 := .full) (m2 := .full) (nd := nodeF 6 t0.pos t1.text [x]) hk (.inr rfl) (.inl rfl)
end Go.Proofs
namespace Go.Proofs
open Go Go.AL
theorem branch_c {T : List Tk} (hT : T.length ≤ 100000) {pid : Nat} {e : PM Nd} (he : HC T pid 45 e) : HC T pid 80 (branchF T e) := by
  intro p r p' h K st hp hk
  refine acalls_leK (acalls_go_mod [] Tryz.func80 rfl Tryz.results80 Tryz.ntmps80 ?_)
  unfold branchF at h
  simp only [Option.bind_eq_some_iff,Option.map_eq_some_iff,Prod.exists,Prod.mk.injEq] at h
  obtain ⟨t0,p1,h1,x1,p2,h2,p3,h3,x2,p4,h4,p5,h5,x3,p6,h6,rfl,rfl⟩ := h
  simp only [go_sem]
  refine take_c hT h1 (psat_app hp) ?_
  simp only [go_sem,inS_get hp]
  refine in_c he rfl h2 (psat_seta hp) ?_
  simp only [go_sem,inS_get hp]
  refine must_c hT h3 (psat_seta hp) fun _ => ?_
  simp only [go_sem,inS_get hp]
  refine in_c he rfl h4 (psat_seta hp) ?_
  simp only [go_sem,inS_get hp]
  refine must_c hT h5 (psat_seta hp) fun _ => ?_
  simp only [go_sem,inS_get hp]
  refine awp_drawW [] [(0,[6]),(0,[6]),(0,[6]),(0,[]),(3,[6]),(0,[]),(3,[7]),(1,[8])] Tryz.mixed rfl ?_
  simp only [go_sem,drawW_n,drawW_0,drawW_1,drawW_2,drawW_3,pend_n,pend_c,headD_c,isStore_s]
  refine ⟨_,_,in_c he rfl h6 (psat_seta hp) ⟨rfl,rfl⟩,?_⟩
  simp only [go_sem,drawW_n,drawW_0,drawW_1,drawW_2,drawW_3,pend_n,pend_c,headD_c,isStore_s,inS_get hp]
  rw [dk_eff]
  refine ⟨.slice .full 6 [ndSV x1,ndSV x2,ndSV x3],?_,?_⟩
  · simp only [go_sem]
    exact ⟨⟨[],by simp⟩,ids_nds _ _ (.inr rfl) _ [_,_,_],.inl rfl⟩
  refine ⟨_,_,node_c rfl rfl rfl rfl (fun _ => rfl) (ids_nds _ _ (.inr rfl) 6 [x1,x2,x3]) ⟨rfl,rfl⟩,?_⟩
  unfold ndFull
  simp only [go_sem,drawW_n,drawW_0,drawW_1,drawW_2,drawW_3,pend_n,pend_c,headD_c,isStore_s,inS_get hp]
  exact fin_nd (z1 := 0) (z2 := 6) (m1 := .full) (m2 := .full) (nd := nodeF 10 t0.pos [] [x1,x2,x3]) hk (.inr rfl) (.inl rfl)
end Go.Proofs
namespace Go.Proofs
open Go Go.AL
theorem decl_c {T : List Tk} (hT : T.length ≤ 100000) {pid : Nat} {e ty : PM Nd} (he : HC T pid 45 e) (hy : HC T pid 94 ty) : HC T pid 42 (declF T e ty) := by
  intro p r p' h K st hp hk
  refine acalls_leK (acalls_go_mod [] Tryz.func42 rfl Tryz.results42 Tryz.ntmps42 ?_)
  unfold declF isF at h
  simp only [Option.bind_eq_some_iff,Option.map_eq_some_iff,Prod.exists,Prod.mk.injEq] at h
  obtain ⟨b,⟨t,h0,rfl⟩,u,pu,h1,p1,h2,rfl,rfl⟩ := h
  cases hb : isT t [116,121,112,101] with
  | true =>
    rw [hb,if_pos rfl] at h1
    simp only [go_sem]
    refine is_c h0 (psat_app hp) ?_
    simp only [go_sem,hb]
    refine decltype_c hT hy _ _ _ h1 _ _ (psat_app hp) ?_
    simp only [go_sem,inS_get hp]
    refine must_c hT h2 (psat_seta hp) fun _ => ?_
    simp only [go_sem,inS_get hp]
    exact fin_nd' hk
  | false =>
    rw [hb,if_neg (by simp)] at h1
    simp only [Option.bind_eq_some_iff,Option.map_eq_some_iff,Prod.exists,Prod.mk.injEq] at h1
    obtain ⟨t1,p2,h3,nm,rc,v,p3,h4,rfl,rfl⟩ := h1
    cases rc with
    | true =>
      simp only [go_sem]
      refine is_c h0 (psat_app hp) ?_
      simp only [go_sem,hb]
      refine take_c hT h3 (psat_app hp) ?_
      have y1 := pfacts (psat_set (p' := p2) hp)
      unfold psL
      simp only [go_sem,inS_get hp,y1.1,y1.2.1,y1.2.2]
      first | (unfold ACallsH; simp only [put_some,put_none',ev_tmp,List.set_cons_succ,List.set_cons_zero,List.getD_cons_succ,List.getD_cons_zero]) | skip
      refine value_c hT he _ _ _ _ _ h4 _ _ (psat_seta hp) ?_
      have y2 := pfacts (psat_set (p' := p3) hp)
      unfold psL
      simp only [go_sem,inS_get hp,y2.1,y2.2.1,y2.2.2]
      first | (unfold ACallsH; simp only [put_some,put_none',ev_tmp,List.set_cons_succ,List.set_cons_zero,List.getD_cons_succ,List.getD_cons_zero]) | skip
      refine node_c rfl rfl rfl rfl (fun _ => rfl) (ids_nds _ _ (.inr rfl) 6 [v]) ?_
      unfold ndFull
      simp only [go_sem,inS_get hp]
      first | (unfold ACallsH; simp only [put_some,put_none',ev_tmp,List.set_cons_succ,List.set_cons_zero,List.getD_cons_succ,List.getD_cons_zero]) | skip
      refine must_c hT h2 (psat_seta hp) fun _ => ?_
      simp only [go_sem,inS_get hp]
      exact fin_nd (z1 := 0) (z2 := 6) (m1 := .full) (m2 := .full) (nd := nodeF 29 t1.pos nm [v]) hk (.inr rfl) (.inl rfl)
    | false =>
      simp only [go_sem]
      refine is_c h0 (psat_app hp) ?_
      simp only [go_sem,hb]
      refine take_c hT h3 (psat_app hp) ?_
      have y1 := pfacts (psat_set (p' := p2) hp)
      unfold psL
      simp only [go_sem,inS_get hp,y1.1,y1.2.1,y1.2.2]
      first | (unfold ACallsH; simp only [put_some,put_none',ev_tmp,List.set_cons_succ,List.set_cons_zero,List.getD_cons_succ,List.getD_cons_zero]) | skip
      refine value_c hT he _ _ _ _ _ h4 _ _ (psat_seta hp) ?_
      have y2 := pfacts (psat_set (p' := p3) hp)
      unfold psL
      simp only [go_sem,inS_get hp,y2.1,y2.2.1,y2.2.2]
      first | (unfold ACallsH; simp only [put_some,put_none',ev_tmp,List.set_cons_succ,List.set_cons_zero,List.getD_cons_succ,List.getD_cons_zero]) | skip
      refine node_c rfl rfl rfl rfl (fun _ => rfl) (ids_nds _ _ (.inr rfl) 6 [v]) ?_
      unfold ndFull
      simp only [go_sem,inS_get hp]
      first | (unfold ACallsH; simp only [put_some,put_none',ev_tmp,List.set_cons_succ,List.set_cons_zero,List.getD_cons_succ,List.getD_cons_zero]) | skip
      refine must_c hT h2 (psat_seta hp) fun _ => ?_
      simp only [go_sem,inS_get hp]
      exact fin_nd (z1 := 0) (z2 := 6) (m1 := .full) (m2 := .full) (nd := nodeF 28 t1.pos nm [v]) hk (.inr rfl) (.inl rfl)
end Go.Proofs
