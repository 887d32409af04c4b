import Derived.Test.YtnjiphlokjfdlaaGreatDoorW7
import Derived.Test.YtnjiphlokjfdlaaGreatDoorN1
import Derived.Test.YtnjiphlokjfdlaaGreatDoorM9
set_option maxHeartbeats 4000000
set_option linter.unusedSimpArgs false
set_option linter.unusedVariables false
set_option maxRecDepth 8000
namespace Go.AL
variable {P : Program}
section
variable {M : List Nat} {ds : List (Option Tmp)} {ks : List Nat} {tbl : List (List Nat × St)} {i : Nat} {Ls : List (List (List Nat))} {o : Oper} {r : List Oper} {env : List SV} {K : List SV → Prop} {c c2 c3 c4 : List Nat}
theorem dD_p4 (hk : ks.contains i = false) (X : SV) (h1 : d1Spec P M ds o env (look tbl c) (fun x => x = X)) (h2 : d1Spec P M ds o env (look tbl c2) (fun x => x = X)) (h3 : d1Spec P M ds o env (look tbl c3) (fun x => x = X)) (h4 : d1Spec P M ds o env (look tbl c4) (fun x => x = X))
    (h : drawD P M ds ks tbl (i + 1) Ls r (putE env o.dst X) K) : drawD P M ds ks tbl i ([c,c2,c3,c4] :: Ls) (o :: r) env K := by
  refine ⟨X,?_,h⟩
  rw [if_neg (by rw [hk]; decide)]
  intro x hx
  simp only [List.mem_cons,List.not_mem_nil,or_false] at hx
  rcases hx with rfl | rfl | rfl | rfl
  · exact h1
  · exact h2
  · exact h3
  · exact h4
end
theorem ids_full {k a : Int} {t : Tx} {x : SV} (n : Nat) (h : Ids n x) : Ids n (ndFull k t 0 a x) := by
  unfold ndFull
  rw [ids_agg]
  simp only [List.forall_mem_cons,ids_sc,true_and]
  exact ⟨ids_slice (.inr rfl) (fun x hx => by cases hx),h,fun x hx => by cases hx⟩
def tblV (T : List Tk) (pid : Nat) (st : St) (p p' : PS) (ex : St) (z n : List SV) : List (List Nat × St) :=
  [([],st.set pid (.cells (psL T p)) ++ ex),([4],st.set pid (.cells (psL T p')) ++ ex),([7],st.set pid (.cells (psL T p)) ++ (ex ++ [.cells z])),([4,7],st.set pid (.cells (psL T p')) ++ (ex ++ [.cells z])),([4,7,8],st.set pid (.cells (psL T p')) ++ (ex ++ [.cells n]))]
section
variable {T : List Tk} {pid : Nat} {st : St} {p p' : PS} {ex : St} {z n : List SV}
theorem tblV_0 : look (tblV T pid st p p' ex z n) [] = st.set pid (.cells (psL T p)) ++ ex := rfl
theorem tblV_4 : look (tblV T pid st p p' ex z n) [4] = st.set pid (.cells (psL T p')) ++ ex := rfl
theorem tblV_7 : look (tblV T pid st p p' ex z n) [7] = st.set pid (.cells (psL T p)) ++ (ex ++ [.cells z]) := rfl
theorem tblV_47 : look (tblV T pid st p p' ex z n) [4,7] = st.set pid (.cells (psL T p')) ++ (ex ++ [.cells z]) := rfl
theorem tblV_478 : look (tblV T pid st p p' ex z n) [4,7,8] = st.set pid (.cells (psL T p')) ++ (ex ++ [.cells n]) := rfl
end
end Go.AL
namespace Go.Proofs
open Go Go.AL
theorem let_c {T : List Tk} (hT : T.length ≤ 100000) {pid : Nat} {e : PM Nd} (he : HC T pid 45 e) : HC T pid 78 (letF T e) := by
  intro p r p' h K st hp hk
  refine acalls_leK (acalls_go_mod [] Tryz.func78 rfl Tryz.results78 Tryz.ntmps78 ?_)
  unfold letF at h
  simp only [Option.bind_eq_some_iff,Option.map_eq_some_iff,Prod.exists,Prod.mk.injEq] at h
  obtain ⟨t0,p1,h1,nm,rc,v,p2,h2,p3,h3,x,p4,h4,rfl,rfl⟩ := h
  simp only [go_sem]
  refine take_c hT h1 (psat_app hp) ?_
  simp only [go_sem,inS_get hp]
  first | (unfold ACallsH; simp only [put_some,put_none',ev_tmp,List.set_cons_succ,List.set_cons_zero,List.getD_cons_succ,List.getD_cons_zero]) | skip
  refine value_c hT he _ _ _ _ _ h2 _ _ (psat_seta hp) ?_
  simp only [go_sem,inS_get hp]
  first | (unfold ACallsH; simp only [put_some,put_none',ev_tmp,List.set_cons_succ,List.set_cons_zero,List.getD_cons_succ,List.getD_cons_zero]) | skip
  refine must_c hT h3 (psat_seta hp) fun _ => ?_
  simp only [go_sem,inS_get hp]
  refine awp_drawD [] [4,7,8] (tblV T pid st p3 p4 [.cells zNd,.cells (ndSV v).cells] zNd [.sc (.int .i64 8),.sc (.string (ba nm)),.sc (.int .i64 0),.sc (.int .i64 t0.pos),.slice .full 0 [],.slice .full 6 [ndSV v,ndSV x]])
    [[[],[7],[4],[4,7]],[[],[7],[4],[4,7]],[[],[7],[4],[4,7]],[[],[7]],[[],[7]],[[4],[4,7]],[[4],[4,7]],[[],[4]],[[4,7]]] Tryz.mixed rfl rfl rfl rfl rfl ?_
  refine dD_p4 rfl (.sc (.int .i64 t0.pos)) (by simp only [go_sem]) (by simp only [go_sem]) (by simp only [go_sem]) (by simp only [go_sem]) ?_
  refine dD_p4 rfl (.sc (.string (ba nm))) (by simp only [go_sem]) (by simp only [go_sem]) (by simp only [go_sem]) (by simp only [go_sem]) ?_
  refine dD_p4 rfl (ndSV v) (by simp only [go_sem,tblV_0,tblV_4,tblV_7,tblV_47,tblV_478]) (by simp only [go_sem,tblV_0,tblV_4,tblV_7,tblV_47,tblV_478]) (by simp only [go_sem,tblV_0,tblV_4,tblV_7,tblV_47,tblV_478]) (by simp only [go_sem,tblV_0,tblV_4,tblV_7,tblV_47,tblV_478]) ?_
  refine dD_p2 rfl (.ptr pid 0) (by simp only [go_sem]) (by simp only [go_sem]) ?_
  refine dD_t2 (d := [4]) (d2 := [4,7]) rfl rfl rfl (ndSV x) rfl ?_ ?_ ?_
  · simp only [go_sem,tblV_0,tblV_4,tblV_7,tblV_47,tblV_478]
    refine in_c he rfl h4 (psat_seta hp) ?_
    simp only [go_sem,inS_get hp]
  · simp only [go_sem,tblV_0,tblV_4,tblV_7,tblV_47,tblV_478]
    refine in_c he rfl h4 (psat_seta hp) ?_
    simp only [go_sem,inS_get hp]
  refine dD_p2 rfl (.slice .full 6 [ndSV v,ndSV x]) ?_ ?_ ?_
  · simp only [go_sem]
    refine ⟨_,?_,rfl⟩
    simp only [go_sem]
    exact ⟨⟨[],by simp⟩,ids_nds _ _ (.inr rfl) _ [_,_],.inl rfl⟩
  · simp only [go_sem]
    refine ⟨_,?_,rfl⟩
    simp only [go_sem]
    exact ⟨⟨[],by simp⟩,ids_nds _ _ (.inr rfl) _ [_,_],.inl rfl⟩
  refine dD_p2 rfl (ndFull 8 nm 0 t0.pos (.slice .full 6 [ndSV v,ndSV x])) ?_ ?_ ?_
  · simp only [go_sem]
    rw [dk_eff]
    refine ⟨_,?_,rfl⟩
    simp only [go_sem]
    refine node_c rfl rfl rfl rfl (fun _ => rfl) (ids_nds _ _ (.inr rfl) 6 [v,x]) ?_
    exact ⟨⟨[],by simp⟩,ids_full _ (ids_nds _ _ (.inr rfl) 6 [v,x]),.inl rfl⟩
  · simp only [go_sem]
    rw [dk_eff]
    refine ⟨_,?_,rfl⟩
    simp only [go_sem]
    refine node_c rfl rfl rfl rfl (fun _ => rfl) (ids_nds _ _ (.inr rfl) 6 [v,x]) ?_
    exact ⟨⟨[],by simp⟩,ids_full _ (ids_nds _ _ (.inr rfl) 6 [v,x]),.inl rfl⟩
  refine dD_t2 (d := [7]) (d2 := [4,7]) rfl rfl rfl (.ptr (st.length + 2) 0) rfl ?_ ?_ ?_
  · simp only [go_sem,tblV_0,tblV_4,tblV_7,tblV_47,tblV_478,zNd]
  · simp only [go_sem,tblV_0,tblV_4,tblV_7,tblV_47,tblV_478,zNd]
  refine dD_t1 (d := [4,7,8]) rfl rfl .any rfl ?_ ?_
  · unfold ndFull
    simp only [go_sem,tblV_0,tblV_4,tblV_7,tblV_47,tblV_478,zNd]
  refine dD_end ?_
  cases rc with
  | true =>
    simp only [go_sem,tblV_0,tblV_4,tblV_7,tblV_47,tblV_478,zNd]
    exact fin_nd (z1 := 0) (z2 := 6) (m1 := .full) (m2 := .full) (nd := nodeF 9 t0.pos nm [v,x]) hk (.inr rfl) (.inl rfl)
  | false =>
    simp only [go_sem,tblV_0,tblV_4,tblV_7,tblV_47,tblV_478,zNd]
    exact fin_nd (z1 := 0) (z2 := 6) (m1 := .full) (m2 := .full) (nd := nodeF 8 t0.pos nm [v,x]) hk (.inr rfl) (.inl rfl)
theorem try_c {T : List Tk} (hT : T.length ≤ 100000) {pid : Nat} {e : PM Nd} (he : HC T pid 45 e) : HC T pid 119 (tryF T e) := by
  intro p r p' h K st hp hk
  refine acalls_leK (acalls_go_mod [] Tryz.func119 rfl Tryz.results119 Tryz.ntmps119 ?_)
  unfold tryF at h
  simp only [Option.bind_eq_some_iff,Option.map_eq_some_iff,Prod.exists,Prod.mk.injEq] at h
  obtain ⟨t0,p1,h1,v,p2,h2,p3,h3,t1,p4,h4,p5,h5,x,p6,h6,p7,h7,rfl,rfl⟩ := h
  simp only [go_sem]
  refine take_c hT h1 (psat_app hp) ?_
  simp only [go_sem,inS_get hp]
  first | (unfold ACallsH; simp only [put_some,put_none',ev_tmp,List.set_cons_succ,List.set_cons_zero,List.getD_cons_succ,List.getD_cons_zero]) | skip
  refine whole_c hT he _ _ _ h2 _ _ (psat_seta hp) ?_
  simp only [go_sem,inS_get hp]
  first | (unfold ACallsH; simp only [put_some,put_none',ev_tmp,List.set_cons_succ,List.set_cons_zero,List.getD_cons_succ,List.getD_cons_zero]) | skip
  refine must_c hT h3 (psat_seta hp) fun _ => ?_
  simp only [go_sem,inS_get hp]
  first | (unfold ACallsH; simp only [put_some,put_none',ev_tmp,List.set_cons_succ,List.set_cons_zero,List.getD_cons_succ,List.getD_cons_zero]) | skip
  refine word_c hT h4 (psat_seta hp) ?_
  simp only [go_sem,inS_get hp]
  first | (unfold ACallsH; simp only [put_some,put_none',ev_tmp,List.set_cons_succ,List.set_cons_zero,List.getD_cons_succ,List.getD_cons_zero]) | skip
  refine must_c hT h5 (psat_seta hp) fun _ => ?_
  simp only [go_sem,inS_get hp]
  refine awp_drawD [] [4,7,8] (tblV T pid st p5 p6 [.cells zNd,.cells (ndSV v).cells] zNd [.sc (.int .i64 12),.sc (.string (ba t1.text)),.sc (.int .i64 0),.sc (.int .i64 t0.pos),.slice .full 0 [],.slice .full 6 [ndSV v,ndSV x]])
    [[[],[7],[4],[4,7]],[[],[7],[4],[4,7]],[[],[7],[4],[4,7]],[[],[7]],[[],[7]],[[4],[4,7]],[[4],[4,7]],[[],[4]],[[4,7]]] Tryz.mixed rfl rfl rfl rfl rfl ?_
  refine dD_p4 rfl (.sc (.int .i64 t0.pos)) (by simp only [go_sem]) (by simp only [go_sem]) (by simp only [go_sem]) (by simp only [go_sem]) ?_
  refine dD_p4 rfl (.sc (.string (ba t1.text))) (by simp only [go_sem]) (by simp only [go_sem]) (by simp only [go_sem]) (by simp only [go_sem]) ?_
  refine dD_p4 rfl (ndSV v) (by simp only [go_sem,tblV_0,tblV_4,tblV_7,tblV_47,tblV_478]) (by simp only [go_sem,tblV_0,tblV_4,tblV_7,tblV_47,tblV_478]) (by simp only [go_sem,tblV_0,tblV_4,tblV_7,tblV_47,tblV_478]) (by simp only [go_sem,tblV_0,tblV_4,tblV_7,tblV_47,tblV_478]) ?_
  refine dD_p2 rfl (.ptr pid 0) (by simp only [go_sem]) (by simp only [go_sem]) ?_
  refine dD_t2 (d := [4]) (d2 := [4,7]) rfl rfl rfl (ndSV x) rfl ?_ ?_ ?_
  · simp only [go_sem,tblV_0,tblV_4,tblV_7,tblV_47,tblV_478]
    refine whole_c hT he _ _ _ h6 _ _ (psat_seta hp) ?_
    simp only [go_sem,inS_get hp]
  · simp only [go_sem,tblV_0,tblV_4,tblV_7,tblV_47,tblV_478]
    refine whole_c hT he _ _ _ h6 _ _ (psat_seta hp) ?_
    simp only [go_sem,inS_get hp]
  refine dD_p2 rfl (.slice .full 6 [ndSV v,ndSV x]) ?_ ?_ ?_
  · simp only [go_sem]
    refine ⟨_,?_,rfl⟩
    simp only [go_sem]
    exact ⟨⟨[],by simp⟩,ids_nds _ _ (.inr rfl) _ [_,_],.inl rfl⟩
  · simp only [go_sem]
    refine ⟨_,?_,rfl⟩
    simp only [go_sem]
    exact ⟨⟨[],by simp⟩,ids_nds _ _ (.inr rfl) _ [_,_],.inl rfl⟩
  refine dD_p2 rfl (ndFull 12 t1.text 0 t0.pos (.slice .full 6 [ndSV v,ndSV x])) ?_ ?_ ?_
  · simp only [go_sem]
    rw [dk_eff]
    refine ⟨_,?_,rfl⟩
    simp only [go_sem]
    refine node_c rfl rfl rfl rfl (fun _ => rfl) (ids_nds _ _ (.inr rfl) 6 [v,x]) ?_
    exact ⟨⟨[],by simp⟩,ids_full _ (ids_nds _ _ (.inr rfl) 6 [v,x]),.inl rfl⟩
  · simp only [go_sem]
    rw [dk_eff]
    refine ⟨_,?_,rfl⟩
    simp only [go_sem]
    refine node_c rfl rfl rfl rfl (fun _ => rfl) (ids_nds _ _ (.inr rfl) 6 [v,x]) ?_
    exact ⟨⟨[],by simp⟩,ids_full _ (ids_nds _ _ (.inr rfl) 6 [v,x]),.inl rfl⟩
  refine dD_t2 (d := [7]) (d2 := [4,7]) rfl rfl rfl (.ptr (st.length + 2) 0) rfl ?_ ?_ ?_
  · simp only [go_sem,tblV_0,tblV_4,tblV_7,tblV_47,tblV_478,zNd]
  · simp only [go_sem,tblV_0,tblV_4,tblV_7,tblV_47,tblV_478,zNd]
  refine dD_t1 (d := [4,7,8]) rfl rfl .any rfl ?_ ?_
  · unfold ndFull
    simp only [go_sem,tblV_0,tblV_4,tblV_7,tblV_47,tblV_478,zNd]
  refine dD_end ?_
  simp only [go_sem,tblV_0,tblV_4,tblV_7,tblV_47,tblV_478,zNd]
  refine must_c hT h7 (psat_seta hp) fun _ => ?_
  simp only [go_sem,inS_get hp]
  exact fin_nd (z1 := 0) (z2 := 6) (m1 := .full) (m2 := .full) (nd := nodeF 12 t0.pos t1.text [v,x]) hk (.inr rfl) (.inl rfl)
end Go.Proofs
