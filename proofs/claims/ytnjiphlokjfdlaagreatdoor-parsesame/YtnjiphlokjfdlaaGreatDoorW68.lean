import Derived.Test.YtnjiphlokjfdlaaGreatDoorW67
import Derived.Test.YtnjiphlokjfdlaaGreatDoorA9
set_option maxHeartbeats 4000000
set_option linter.unusedSimpArgs false
set_option linter.unusedVariables false
set_option maxRecDepth 8000
namespace Go.AL
variable {T : List Tk} {pid : Nat} {st : St} {p q : PS}
theorem dset_app (hp : DAt T pid p st) {X Y : Ob} {ex : St} : (st.set pid X ++ ex).set pid Y = st.set pid Y ++ ex := by
  have := lt_of_get hp
  rw [List.set_append_left _ _ (by simpa using this),List.set_set]
theorem s2_norm (hp : DAt T pid p st) {X a b : Ob} {l : List SV} {k : Nat} (hk : k = st.length + 1) : S2 T pid k l q (st.set pid X ++ [a,b]) = st.set pid (.cells (dpL T q)) ++ [a,.cells l] := by
  subst hk
  unfold S2
  rw [set_sx,dset_app hp]
  rfl
theorem find_still {nd : Nd} {K : SV → St → Prop} {aid ver : Nat} {cs : List SV} {ex s : St} (hk : K (ndSV nd) (st.set pid (.cells (dpL T p)))) (hs : s = st.set pid (.cells (dpL T p)) ++ ex) (hid : s[aid]? = some (.arr ver 6 cs)) (hlen : st.length ≤ aid) (hcs : cs = nd.kids.flatMap ndCells) (hnm : nd.names = []) {n : Nat} (hn : n = nd.kids.length) :
    StillN (FinM st (LeK K)) (.agg (ndArr nd (.arr aid ver n))) s := by
  subst hn
  have hfl : (nd.kids.map ndSV).flatMap SV.cells = nd.kids.flatMap ndCells := by
    rw [List.flatMap_map]; exact congrArg (fun f => nd.kids.flatMap f) (funext fun c => cells_nd c)
  refine ⟨[.sc (.int .i64 nd.kind),.sc (.string (ba nd.text)),.sc (.int .i64 nd.num),.sc (.int .i64 nd.pos),.slice .full 0 []],aid,ver,_,6,nd.kids.map ndSV,cs,rfl,hid,?_,by simp,?_,?_⟩
  · rw [hcs,hfl]
    refine List.take_of_length_le ?_
    clear hcs hfl hnm hk
    induction nd.kids with
    | nil => simp
    | cons a l ih => rw [List.flatMap_cons,List.length_append,List.length_cons]; simp only [ndCells,List.length_cons,List.length_nil] at ih ⊢; omega
  · intro x hx
    obtain ⟨c,_,rfl⟩ := List.mem_map.1 hx
    exact nd_len c
  · subst hs
    rw [List.set_append_right _ _ (by simpa using hlen)]
    have := find_nd (T := T) (pid := pid) (m1 := .full) (m2 := .imm) (z1 := 0) (z2 := 6) hk (.inr hnm) (.inl rfl) (ex := ex.set (aid - (st.set pid (.cells (dpL T p))).length) (.arr (ver + 1) 6 []))
    unfold ndRaw at this
    rw [hnm] at this
    exact this
theorem dat_setg {p0 : PS} {b : Bool} {ex : St} (hp : DAt T pid p0 st) (h : p.flat = b) :
    DAt T pid p (st.set pid (.cells [.slice .imm 4 (T.map tkSV),.sc (.int .i64 p.pos),.sc (.int .i64 p.deep),.sc (.int .i64 p.bad),.sc (.bool b),.sc (.int .i64 p.e)]) ++ ex) := by
  subst h; exact dat_seta hp
theorem find_ndg {nd : Nd} {K : SV → St → Prop} {b : Bool} (h : p.flat = b) (hk : K (ndSV nd) (st.set pid (.cells (dpL T p)))) {ex : St} :
    FinM st (LeK K) (ndSV nd) (st.set pid (.cells [.slice .imm 4 (T.map tkSV),.sc (.int .i64 p.pos),.sc (.int .i64 p.deep),.sc (.int .i64 p.bad),.sc (.bool b),.sc (.int .i64 p.e)]) ++ ex) := by
  subst h; exact find_nd' hk
end Go.AL
namespace Go.Proofs
open Go Go.AL
theorem dvalueO_c (T : List Tk) (hT : T.length ≤ 100000) {pid : Nat} {e : PM Nd} (he : DC T pid 15 e) {nd : Nd} {p p' : PS} {x : Tx} {rc : Bool} {v : Nd} (h : valueR T e p = some ((x,rc,v),p')) {K : SV → St → Prop} {st : St} {p0 : PS} (hp : DAt T pid p0 st) {a : Ob} {k : Nat} (hk' : k = st.length + 1)
    (hk : K (.sc (.bool rc)) (st.set pid (.cells (dpL T p')) ++ [a,.cells (ndArr (.mk nd.kind x nd.num nd.pos [] []) (.arr (st.length + 2) 1 1)),.arr 1 6 (ndCells v)])) :
    ACalls Tryz.prog 24 [.ptr pid 0,.ptr k 0] K (st.set pid (.cells (dpL T p)) ++ [a,.cells (ndArr nd (.slice .full 0 []))]) := by
  subst hk'
  have hlt := lt_of_get hp
  refine dvalue_c T hT (by omega) he h (dat_seta hp) (get_sx 1) ?_
  rw [s2_norm hp rfl]
  simpa using hk
theorem dinnerF_c {T : List Tk} (hT : T.length ≤ 100000) {pid : Nat} {e pt : PM Nd} (he : DC T pid 15 e) (hc : DC T pid 36 (cmpR T e pt)) {p p' : PS} {t : Tk} {r : Nd} (ht : lookF T p = some t)
    (b1 : isT t [108,101,116] = false) (b2 : isT t [102,117,110] = true) (b3 : isT t [105,102] = false) (h : ((stepR T p).bind fun r => (textR T 3 r.2).bind fun q => (mustF T [45,62] q.2).bind fun p1 => (e p1).map fun u => (nodeF 6 t.pos q.1 [u.1],u.2)) = some (r,p')) {K : SV → St → Prop} {st : St} (hp : DAt T pid p st) (hk : K (ndSV r) (st.set pid (.cells (dpL T p')))) : ACalls Tryz.prog 26 [.ptr pid 0] K st := by
  refine acalls_leK (acalls_mod (acalls_stillN (acalls_go (M := [1000054]) Tryz.func26 rfl Tryz.results26 Tryz.ntmps26 ?_)))
  simp only [Option.bind_eq_some_iff,Option.map_eq_some_iff,Prod.exists,Prod.mk.injEq] at h
  obtain ⟨u,p1,h1,x,p2,h2,p3,h3,w,p4,h4,rfl,rfl⟩ := h
  simp only [go_sem]
  refine dat_t ht (dat_app hp) ?_
  simp only [go_sem]
  refine dis_t ht b1 (dat_app hp) ?_
  simp only [go_sem]
  refine dis_t ht b2 (dat_app hp) ?_
  simp only [go_sem]
  refine dis_t ht b3 (dat_app hp) ?_
  simp only [go_sem]
  refine dstep_c hT h1 (dat_app hp) ?_
  simp only [go_sem,inS_get hp]
  refine dtext_c hT (by decide) h2 (dat_seta hp) ?_
  simp only [go_sem,inS_get hp]
  refine dwant_c hT h3 (dat_seta hp) fun _ => ?_
  simp only [go_sem,inS_get hp]
  refine awp_drawD [1000054] [3,6,8,10] [([],st.set pid (.cells (dpL T p3)) ++ [.cells zNd,.cells [.sc (.int .i64 6),.sc (.string (ba x)),.sc (.int .i64 0),.sc (.int .i64 t.pos),.slice .full 0 [],.slice .full 0 []]]),([3],st.set pid (.cells (dpL T p4)) ++ [.cells zNd,.cells [.sc (.int .i64 6),.sc (.string (ba x)),.sc (.int .i64 0),.sc (.int .i64 t.pos),.slice .full 0 [],.slice .full 0 []]]),([3,6],st.set pid (.cells (dpL T p4)) ++ [.cells zNd,.cells [.sc (.int .i64 6),.sc (.string (ba x)),.sc (.int .i64 0),.sc (.int .i64 t.pos),.slice .full 0 [],.slice .full 0 []],.arr 1 6 (zW)]),
    ([3,6,8],st.set pid (.cells (dpL T p4)) ++ [.cells zNd,.cells [.sc (.int .i64 6),.sc (.string (ba x)),.sc (.int .i64 0),.sc (.int .i64 t.pos),.slice .full 0 [],.slice .full 0 []],.arr 1 6 (ndCells w)]),([3,6,10],st.set pid (.cells (dpL T p4)) ++ [.cells zNd,.cells [.sc (.int .i64 6),.sc (.string (ba x)),.sc (.int .i64 0),.sc (.int .i64 t.pos),.slice .full 0 [],.arr (st.length + 2) 1 1],.arr 1 6 (zW)]),([3,6,8,10],st.set pid (.cells (dpL T p4)) ++ [.cells zNd,.cells [.sc (.int .i64 6),.sc (.string (ba x)),.sc (.int .i64 0),.sc (.int .i64 t.pos),.slice .full 0 [],.arr (st.length + 2) 1 1],.arr 1 6 (ndCells w)])]
    [[[],[3]],[[],[3]],[[]],[[]],[[],[3]],[[],[3]],[[3]],[[3,6],[3,6,10]],[[3,6],[3,6,10]],[[3,6],[3,6,8]],[[3,6],[3,6,8]]] Tryz.mixed rfl rfl rfl rfl rfl ?_
  refine dD_p2 rfl (.ptr (st.length + 1) 5) (by simp only [go_sem]) (by simp only [go_sem]) ?_
  refine dD_p2 rfl (.slice .full 0 []) (by simp only [go_sem]) (by simp only [go_sem]) ?_
  refine dD_p1 rfl (.ptr pid 0) (by simp only [go_sem]) ?_
  refine dD_t1 (d := [3]) rfl rfl (ndSV w) rfl ?_ ?_
  · simp only [go_sem]
    exact he _ _ _ h4 _ _ (dat_seta hp) ⟨rfl,dset_app hp⟩
  refine dD_p2 rfl (.sc (.int .i64 ((0 : Nat) : Int))) (by simp only [go_sem]) (by simp only [go_sem]) ?_
  refine dD_p2 rfl (.slice .full 6 [.agg zW]) ?_ ?_ ?_
  · simp only [go_sem]
    refine ⟨_,?_,rfl⟩
    simp only [go_sem]
    exact ⟨⟨[],by simp⟩,ids_zW _,.inl rfl⟩
  · simp only [go_sem]
    refine ⟨_,?_,rfl⟩
    simp only [go_sem]
    exact ⟨⟨[],by simp⟩,ids_zW _,.inl rfl⟩
  refine dD_t1 (d := [3,6]) rfl rfl (.arr (st.length + 2) 1 1) rfl ?_ ?_
  · simp only [go_sem,zW]
    exact ⟨Tryz.app6 (by omega),rfl⟩
  refine dD_p2 rfl (.aptr (st.length + 2) 1 0) ?_ ?_ ?_
  · simp only [go_sem]
    decide
  · simp only [go_sem]
    decide
  refine dD_t2 (d := [3,6,8]) (d2 := [3,6,8,10]) rfl rfl rfl .any rfl ?_ ?_ ?_
  · simp only [go_sem,cells_nd]
    exact ⟨by simp [ndCells,zW],rfl⟩
  · simp only [go_sem,cells_nd]
    exact ⟨by simp [ndCells,zW],rfl⟩
  refine dD_p2 rfl (.ptr (st.length + 1) 5) (by simp only [go_sem]) (by simp only [go_sem]) ?_
  refine dD_t2 (d := [3,6,10]) (d2 := [3,6,8,10]) rfl rfl rfl .any rfl ?_ ?_ ?_
  · simp only [go_sem]
  · simp only [go_sem]
  refine dD_end ?_
  simp only [go_sem]
  refine ⟨by decide,find_still (nd := nodeF 6 t.pos x [w]) (aid := st.length + 2) hk rfl ?_ (by omega) rfl rfl rfl⟩
  exact (get_sx 2).trans rfl
theorem dinnerI_c {T : List Tk} (hT : T.length ≤ 100000) {pid : Nat} {e pt : PM Nd} (he : DC T pid 15 e) (hc : DC T pid 36 (cmpR T e pt)) {p p' : PS} {t : Tk} {r : Nd} (ht : lookF T p = some t)
    (b1 : isT t [108,101,116] = false) (b2 : isT t [102,117,110] = false) (b3 : isT t [105,102] = true) (h : ((stepR T p).bind fun r => (e r.2).bind fun c => (mustF T [116,104,101,110] c.2).bind fun p1 => (e p1).bind fun a => (mustF T [101,108,115,101] a.2).bind fun p2 => (e p2).map fun b => (nodeF 10 t.pos [] [c.1,a.1,b.1],b.2)) = some (r,p')) {K : SV → St → Prop} {st : St} (hp : DAt T pid p st) (hk : K (ndSV r) (st.set pid (.cells (dpL T p')))) : ACalls Tryz.prog 26 [.ptr pid 0] K st := by
  refine acalls_leK (acalls_mod (acalls_stillN (acalls_go (M := [1000068]) Tryz.func26 rfl Tryz.results26 Tryz.ntmps26 ?_)))
  simp only [Option.bind_eq_some_iff,Option.map_eq_some_iff,Prod.exists,Prod.mk.injEq] at h
  obtain ⟨u,p1,h1,x,p2,h2,p3,h3,y,p4,h4,p5,h5,w,p6,h6,rfl,rfl⟩ := h
  simp only [go_sem]
  refine dat_t ht (dat_app hp) ?_
  simp only [go_sem]
  refine dis_t ht b1 (dat_app hp) ?_
  simp only [go_sem]
  refine dis_t ht b2 (dat_app hp) ?_
  simp only [go_sem]
  refine dis_t ht b3 (dat_app hp) ?_
  simp only [go_sem]
  refine dstep_c hT h1 (dat_app hp) ?_
  simp only [go_sem,inS_get hp]
  refine awp_drawD [1000068] [3,6,8,10] [([],st.set pid (.cells (dpL T p1)) ++ [.cells zNd,.cells [.sc (.int .i64 10),.sc (.string ⟨#[]⟩),.sc (.int .i64 0),.sc (.int .i64 t.pos),.slice .full 0 [],.slice .full 0 []]]),([3],st.set pid (.cells (dpL T p2)) ++ [.cells zNd,.cells [.sc (.int .i64 10),.sc (.string ⟨#[]⟩),.sc (.int .i64 0),.sc (.int .i64 t.pos),.slice .full 0 [],.slice .full 0 []]]),([3,6],st.set pid (.cells (dpL T p2)) ++ [.cells zNd,.cells [.sc (.int .i64 10),.sc (.string ⟨#[]⟩),.sc (.int .i64 0),.sc (.int .i64 t.pos),.slice .full 0 [],.slice .full 0 []],.arr 1 6 (zW)]),
    ([3,6,8],st.set pid (.cells (dpL T p2)) ++ [.cells zNd,.cells [.sc (.int .i64 10),.sc (.string ⟨#[]⟩),.sc (.int .i64 0),.sc (.int .i64 t.pos),.slice .full 0 [],.slice .full 0 []],.arr 1 6 (ndCells x)]),([3,6,10],st.set pid (.cells (dpL T p2)) ++ [.cells zNd,.cells [.sc (.int .i64 10),.sc (.string ⟨#[]⟩),.sc (.int .i64 0),.sc (.int .i64 t.pos),.slice .full 0 [],.arr (st.length + 2) 1 1],.arr 1 6 (zW)]),([3,6,8,10],st.set pid (.cells (dpL T p2)) ++ [.cells zNd,.cells [.sc (.int .i64 10),.sc (.string ⟨#[]⟩),.sc (.int .i64 0),.sc (.int .i64 t.pos),.slice .full 0 [],.arr (st.length + 2) 1 1],.arr 1 6 (ndCells x)])]
    [[[],[3]],[[],[3]],[[]],[[]],[[],[3]],[[],[3]],[[3]],[[3,6],[3,6,10]],[[3,6],[3,6,10]],[[3,6],[3,6,8]],[[3,6],[3,6,8]]] Tryz.mixed rfl rfl rfl rfl rfl ?_
  refine dD_p2 rfl (.ptr (st.length + 1) 5) (by simp only [go_sem]) (by simp only [go_sem]) ?_
  refine dD_p2 rfl (.slice .full 0 []) (by simp only [go_sem]) (by simp only [go_sem]) ?_
  refine dD_p1 rfl (.ptr pid 0) (by simp only [go_sem]) ?_
  refine dD_t1 (d := [3]) rfl rfl (ndSV x) rfl ?_ ?_
  · simp only [go_sem]
    exact he _ _ _ h2 _ _ (dat_seta hp) ⟨rfl,dset_app hp⟩
  refine dD_p2 rfl (.sc (.int .i64 ((0 : Nat) : Int))) (by simp only [go_sem]) (by simp only [go_sem]) ?_
  refine dD_p2 rfl (.slice .full 6 [.agg zW]) ?_ ?_ ?_
  · simp only [go_sem]
    refine ⟨_,?_,rfl⟩
    simp only [go_sem]
    exact ⟨⟨[],by simp⟩,ids_zW _,.inl rfl⟩
  · simp only [go_sem]
    refine ⟨_,?_,rfl⟩
    simp only [go_sem]
    exact ⟨⟨[],by simp⟩,ids_zW _,.inl rfl⟩
  refine dD_t1 (d := [3,6]) rfl rfl (.arr (st.length + 2) 1 1) rfl ?_ ?_
  · simp only [go_sem,zW]
    exact ⟨Tryz.app6 (by omega),rfl⟩
  refine dD_p2 rfl (.aptr (st.length + 2) 1 0) ?_ ?_ ?_
  · simp only [go_sem]
    decide
  · simp only [go_sem]
    decide
  refine dD_t2 (d := [3,6,8]) (d2 := [3,6,8,10]) rfl rfl rfl .any rfl ?_ ?_ ?_
  · simp only [go_sem,cells_nd]
    exact ⟨by simp [ndCells,zW],rfl⟩
  · simp only [go_sem,cells_nd]
    exact ⟨by simp [ndCells,zW],rfl⟩
  refine dD_p2 rfl (.ptr (st.length + 1) 5) (by simp only [go_sem]) (by simp only [go_sem]) ?_
  refine dD_t2 (d := [3,6,10]) (d2 := [3,6,8,10]) rfl rfl rfl .any rfl ?_ ?_ ?_
  · simp only [go_sem]
  · simp only [go_sem]
  refine dD_end ?_
  simp only [go_sem]
  first | (unfold ACallsH; simp only [put_some,put_none',ev_tmp,List.set_cons_succ,List.set_cons_zero,List.getD_cons_succ,List.getD_cons_zero]) | skip
  refine dwant_c hT h3 (dat_seta hp) fun _ => ?_
  simp only [go_sem,inS_get hp]
  refine awp_drawD [1000068] [3,6,8,10] [([],st.set pid (.cells (dpL T p3)) ++ [.cells zNd,.cells [.sc (.int .i64 10),.sc (.string ⟨#[]⟩),.sc (.int .i64 0),.sc (.int .i64 t.pos),.slice .full 0 [],.arr (st.length + 2) 1 1],.arr 1 6 (ndCells x)]),([3],st.set pid (.cells (dpL T p4)) ++ [.cells zNd,.cells [.sc (.int .i64 10),.sc (.string ⟨#[]⟩),.sc (.int .i64 0),.sc (.int .i64 t.pos),.slice .full 0 [],.arr (st.length + 2) 1 1],.arr 1 6 (ndCells x)]),([3,6],st.set pid (.cells (dpL T p4)) ++ [.cells zNd,.cells [.sc (.int .i64 10),.sc (.string ⟨#[]⟩),.sc (.int .i64 0),.sc (.int .i64 t.pos),.slice .full 0 [],.arr (st.length + 2) 1 1],.arr 2 6 (ndCells x ++ zW)]),
    ([3,6,8],st.set pid (.cells (dpL T p4)) ++ [.cells zNd,.cells [.sc (.int .i64 10),.sc (.string ⟨#[]⟩),.sc (.int .i64 0),.sc (.int .i64 t.pos),.slice .full 0 [],.arr (st.length + 2) 1 1],.arr 2 6 (ndCells x ++ ndCells y)]),([3,6,10],st.set pid (.cells (dpL T p4)) ++ [.cells zNd,.cells [.sc (.int .i64 10),.sc (.string ⟨#[]⟩),.sc (.int .i64 0),.sc (.int .i64 t.pos),.slice .full 0 [],.arr (st.length + 2) 2 2],.arr 2 6 (ndCells x ++ zW)]),([3,6,8,10],st.set pid (.cells (dpL T p4)) ++ [.cells zNd,.cells [.sc (.int .i64 10),.sc (.string ⟨#[]⟩),.sc (.int .i64 0),.sc (.int .i64 t.pos),.slice .full 0 [],.arr (st.length + 2) 2 2],.arr 2 6 (ndCells x ++ ndCells y)])]
    [[[],[3]],[[],[3]],[[]],[[]],[[],[3]],[[],[3]],[[3]],[[3,6],[3,6,10]],[[3,6],[3,6,10]],[[3,6],[3,6,8]],[[3,6],[3,6,8]]] Tryz.mixed rfl rfl rfl rfl rfl ?_
  refine dD_p2 rfl (.ptr (st.length + 1) 5) (by simp only [go_sem]) (by simp only [go_sem]) ?_
  refine dD_p2 rfl (.arr (st.length + 2) 1 1) (by simp only [go_sem]) (by simp only [go_sem]) ?_
  refine dD_p1 rfl (.ptr pid 0) (by simp only [go_sem]) ?_
  refine dD_t1 (d := [3]) rfl rfl (ndSV y) rfl ?_ ?_
  · simp only [go_sem]
    exact he _ _ _ h4 _ _ (dat_seta hp) ⟨rfl,dset_app hp⟩
  refine dD_p2 rfl (.sc (.int .i64 ((1 : Nat) : Int))) (by simp only [go_sem]) (by simp only [go_sem]) ?_
  refine dD_p2 rfl (.slice .full 6 [.agg zW]) ?_ ?_ ?_
  · simp only [go_sem]
    refine ⟨_,?_,rfl⟩
    simp only [go_sem]
    exact ⟨⟨[],by simp⟩,ids_zW _,.inl rfl⟩
  · simp only [go_sem]
    refine ⟨_,?_,rfl⟩
    simp only [go_sem]
    exact ⟨⟨[],by simp⟩,ids_zW _,.inl rfl⟩
  refine dD_t1 (d := [3,6]) rfl rfl (.arr (st.length + 2) 2 2) rfl ?_ ?_
  · simp only [go_sem,zW]
    exact ⟨Tryz.app6 (by omega),rfl⟩
  refine dD_p2 rfl (.aptr (st.length + 2) 2 6) ?_ ?_ ?_
  · simp only [go_sem]
    decide
  · simp only [go_sem]
    decide
  refine dD_t2 (d := [3,6,8]) (d2 := [3,6,8,10]) rfl rfl rfl .any rfl ?_ ?_ ?_
  · simp only [go_sem,cells_nd]
    exact ⟨by simp [ndCells,zW],rfl⟩
  · simp only [go_sem,cells_nd]
    exact ⟨by simp [ndCells,zW],rfl⟩
  refine dD_p2 rfl (.ptr (st.length + 1) 5) (by simp only [go_sem]) (by simp only [go_sem]) ?_
  refine dD_t2 (d := [3,6,10]) (d2 := [3,6,8,10]) rfl rfl rfl .any rfl ?_ ?_ ?_
  · simp only [go_sem]
  · simp only [go_sem]
  refine dD_end ?_
  simp only [go_sem]
  first | (unfold ACallsH; simp only [put_some,put_none',ev_tmp,List.set_cons_succ,List.set_cons_zero,List.getD_cons_succ,List.getD_cons_zero]) | skip
  refine dwant_c hT h5 (dat_seta hp) fun _ => ?_
  simp only [go_sem,inS_get hp]
  refine awp_drawD [1000068] [3,6,8,10] [([],st.set pid (.cells (dpL T p5)) ++ [.cells zNd,.cells [.sc (.int .i64 10),.sc (.string ⟨#[]⟩),.sc (.int .i64 0),.sc (.int .i64 t.pos),.slice .full 0 [],.arr (st.length + 2) 2 2],.arr 2 6 (ndCells x ++ ndCells y)]),([3],st.set pid (.cells (dpL T p6)) ++ [.cells zNd,.cells [.sc (.int .i64 10),.sc (.string ⟨#[]⟩),.sc (.int .i64 0),.sc (.int .i64 t.pos),.slice .full 0 [],.arr (st.length + 2) 2 2],.arr 2 6 (ndCells x ++ ndCells y)]),([3,6],st.set pid (.cells (dpL T p6)) ++ [.cells zNd,.cells [.sc (.int .i64 10),.sc (.string ⟨#[]⟩),.sc (.int .i64 0),.sc (.int .i64 t.pos),.slice .full 0 [],.arr (st.length + 2) 2 2],.arr 3 6 (ndCells x ++ ndCells y ++ zW)]),
    ([3,6,8],st.set pid (.cells (dpL T p6)) ++ [.cells zNd,.cells [.sc (.int .i64 10),.sc (.string ⟨#[]⟩),.sc (.int .i64 0),.sc (.int .i64 t.pos),.slice .full 0 [],.arr (st.length + 2) 2 2],.arr 3 6 (ndCells x ++ ndCells y ++ ndCells w)]),([3,6,10],st.set pid (.cells (dpL T p6)) ++ [.cells zNd,.cells [.sc (.int .i64 10),.sc (.string ⟨#[]⟩),.sc (.int .i64 0),.sc (.int .i64 t.pos),.slice .full 0 [],.arr (st.length + 2) 3 3],.arr 3 6 (ndCells x ++ ndCells y ++ zW)]),([3,6,8,10],st.set pid (.cells (dpL T p6)) ++ [.cells zNd,.cells [.sc (.int .i64 10),.sc (.string ⟨#[]⟩),.sc (.int .i64 0),.sc (.int .i64 t.pos),.slice .full 0 [],.arr (st.length + 2) 3 3],.arr 3 6 (ndCells x ++ ndCells y ++ ndCells w)])]
    [[[],[3]],[[],[3]],[[]],[[]],[[],[3]],[[],[3]],[[3]],[[3,6],[3,6,10]],[[3,6],[3,6,10]],[[3,6],[3,6,8]],[[3,6],[3,6,8]]] Tryz.mixed rfl rfl rfl rfl rfl ?_
  refine dD_p2 rfl (.ptr (st.length + 1) 5) (by simp only [go_sem]) (by simp only [go_sem]) ?_
  refine dD_p2 rfl (.arr (st.length + 2) 2 2) (by simp only [go_sem]) (by simp only [go_sem]) ?_
  refine dD_p1 rfl (.ptr pid 0) (by simp only [go_sem]) ?_
  refine dD_t1 (d := [3]) rfl rfl (ndSV w) rfl ?_ ?_
  · simp only [go_sem]
    exact he _ _ _ h6 _ _ (dat_seta hp) ⟨rfl,dset_app hp⟩
  refine dD_p2 rfl (.sc (.int .i64 ((2 : Nat) : Int))) (by simp only [go_sem]) (by simp only [go_sem]) ?_
  refine dD_p2 rfl (.slice .full 6 [.agg zW]) ?_ ?_ ?_
  · simp only [go_sem]
    refine ⟨_,?_,rfl⟩
    simp only [go_sem]
    exact ⟨⟨[],by simp⟩,ids_zW _,.inl rfl⟩
  · simp only [go_sem]
    refine ⟨_,?_,rfl⟩
    simp only [go_sem]
    exact ⟨⟨[],by simp⟩,ids_zW _,.inl rfl⟩
  refine dD_t1 (d := [3,6]) rfl rfl (.arr (st.length + 2) 3 3) rfl ?_ ?_
  · simp only [go_sem,zW]
    exact ⟨Tryz.app6 (by omega),rfl⟩
  refine dD_p2 rfl (.aptr (st.length + 2) 3 12) ?_ ?_ ?_
  · simp only [go_sem]
    decide
  · simp only [go_sem]
    decide
  refine dD_t2 (d := [3,6,8]) (d2 := [3,6,8,10]) rfl rfl rfl .any rfl ?_ ?_ ?_
  · simp only [go_sem,cells_nd]
    exact ⟨by simp [ndCells,zW],rfl⟩
  · simp only [go_sem,cells_nd]
    exact ⟨by simp [ndCells,zW],rfl⟩
  refine dD_p2 rfl (.ptr (st.length + 1) 5) (by simp only [go_sem]) (by simp only [go_sem]) ?_
  refine dD_t2 (d := [3,6,10]) (d2 := [3,6,8,10]) rfl rfl rfl .any rfl ?_ ?_ ?_
  · simp only [go_sem]
  · simp only [go_sem]
  refine dD_end ?_
  simp only [go_sem]
  refine ⟨by decide,find_still (nd := nodeF 10 t.pos [] [x,y,w]) (aid := st.length + 2) hk rfl ?_ (by omega) rfl rfl rfl⟩
  exact (get_sx 2).trans rfl
theorem dinnerL_c {T : List Tk} (hT : T.length ≤ 100000) {pid : Nat} {e pt : PM Nd} (he : DC T pid 15 e) (hc : DC T pid 36 (cmpR T e pt)) {p p' : PS} {t : Tk} {r : Nd} (ht : lookF T p = some t)
    (b1 : isT t [108,101,116] = true) (b2 : isT t [102,117,110] = false) (b3 : isT t [105,102] = false) (h : ((stepR T p).bind fun r => (valueR T e r.2).bind fun q => (mustF T [105,110] q.2).bind fun p1 => (e p1).map fun u => (nodeF (if q.1.2.1 then 9 else 8) t.pos q.1.1 [q.1.2.2,u.1],u.2)) = some (r,p')) {K : SV → St → Prop} {st : St} (hp : DAt T pid p st) (hk : K (ndSV r) (st.set pid (.cells (dpL T p')))) : ACalls Tryz.prog 26 [.ptr pid 0] K st := by
  refine acalls_leK (acalls_mod (acalls_stillN (acalls_go (M := []) Tryz.func26 rfl Tryz.results26 Tryz.ntmps26 ?_)))
  simp only [Option.bind_eq_some_iff,Option.map_eq_some_iff,Prod.exists,Prod.mk.injEq] at h
  obtain ⟨u,p1,h1,x,rc,v,p2,h2,p3,h3,w,p4,h4,rfl,rfl⟩ := h
  cases rc with
  | true =>
    simp only [go_sem]
    refine dat_t ht (dat_app hp) ?_
    simp only [go_sem]
    refine dis_t ht b1 (dat_app hp) ?_
    simp only [go_sem]
    refine dis_t ht b2 (dat_app hp) ?_
    simp only [go_sem]
    refine dis_t ht b3 (dat_app hp) ?_
    simp only [go_sem]
    refine dstep_c hT h1 (dat_app hp) ?_
    simp only [go_sem,inS_get hp]
    refine dvalueO_c T hT he (nd := .mk 8 [] 0 t.pos [] []) h2 hp rfl ?_
    unfold ndArr
    simp only [go_sem,inS_get hp]
    refine dwant_c hT h3 (dat_seta hp) fun _ => ?_
    simp only [go_sem,inS_get hp]
    refine awp_drawD [] [3,6,8,10] [([],st.set pid (.cells (dpL T p3)) ++ [.cells zNd,.cells [.sc (.int .i64 9),.sc (.string (ba x)),.sc (.int .i64 0),.sc (.int .i64 t.pos),.slice .full 0 [],.arr (st.length + 2) 1 1],.arr 1 6 (ndCells v)]),([3],st.set pid (.cells (dpL T p4)) ++ [.cells zNd,.cells [.sc (.int .i64 9),.sc (.string (ba x)),.sc (.int .i64 0),.sc (.int .i64 t.pos),.slice .full 0 [],.arr (st.length + 2) 1 1],.arr 1 6 (ndCells v)]),([3,6],st.set pid (.cells (dpL T p4)) ++ [.cells zNd,.cells [.sc (.int .i64 9),.sc (.string (ba x)),.sc (.int .i64 0),.sc (.int .i64 t.pos),.slice .full 0 [],.arr (st.length + 2) 1 1],.arr 2 6 (ndCells v ++ zW)]),
      ([3,6,8],st.set pid (.cells (dpL T p4)) ++ [.cells zNd,.cells [.sc (.int .i64 9),.sc (.string (ba x)),.sc (.int .i64 0),.sc (.int .i64 t.pos),.slice .full 0 [],.arr (st.length + 2) 1 1],.arr 2 6 (ndCells v ++ ndCells w)]),([3,6,10],st.set pid (.cells (dpL T p4)) ++ [.cells zNd,.cells [.sc (.int .i64 9),.sc (.string (ba x)),.sc (.int .i64 0),.sc (.int .i64 t.pos),.slice .full 0 [],.arr (st.length + 2) 2 2],.arr 2 6 (ndCells v ++ zW)]),([3,6,8,10],st.set pid (.cells (dpL T p4)) ++ [.cells zNd,.cells [.sc (.int .i64 9),.sc (.string (ba x)),.sc (.int .i64 0),.sc (.int .i64 t.pos),.slice .full 0 [],.arr (st.length + 2) 2 2],.arr 2 6 (ndCells v ++ ndCells w)])]
      [[[],[3]],[[],[3]],[[]],[[]],[[],[3]],[[],[3]],[[3]],[[3,6],[3,6,10]],[[3,6],[3,6,10]],[[3,6],[3,6,8]],[[3,6],[3,6,8]]] Tryz.mixed rfl rfl rfl rfl rfl ?_
    refine dD_p2 rfl (.ptr (st.length + 1) 5) (by simp only [go_sem]) (by simp only [go_sem]) ?_
    refine dD_p2 rfl (.arr (st.length + 2) 1 1) (by simp only [go_sem]) (by simp only [go_sem]) ?_
    refine dD_p1 rfl (.ptr pid 0) (by simp only [go_sem]) ?_
    refine dD_t1 (d := [3]) rfl rfl (ndSV w) rfl ?_ ?_
    · simp only [go_sem]
      exact he _ _ _ h4 _ _ (dat_seta hp) ⟨rfl,dset_app hp⟩
    refine dD_p2 rfl (.sc (.int .i64 ((1 : Nat) : Int))) (by simp only [go_sem]) (by simp only [go_sem]) ?_
    refine dD_p2 rfl (.slice .full 6 [.agg zW]) ?_ ?_ ?_
    · simp only [go_sem]
      refine ⟨_,?_,rfl⟩
      simp only [go_sem]
      exact ⟨⟨[],by simp⟩,ids_zW _,.inl rfl⟩
    · simp only [go_sem]
      refine ⟨_,?_,rfl⟩
      simp only [go_sem]
      exact ⟨⟨[],by simp⟩,ids_zW _,.inl rfl⟩
    refine dD_t1 (d := [3,6]) rfl rfl (.arr (st.length + 2) 2 2) rfl ?_ ?_
    · simp only [go_sem,zW]
      exact ⟨Tryz.app6 (by omega),rfl⟩
    refine dD_p2 rfl (.aptr (st.length + 2) 2 6) ?_ ?_ ?_
    · simp only [go_sem]
      decide
    · simp only [go_sem]
      decide
    refine dD_t2 (d := [3,6,8]) (d2 := [3,6,8,10]) rfl rfl rfl .any rfl ?_ ?_ ?_
    · simp only [go_sem,cells_nd]
      exact ⟨by simp [ndCells,zW],rfl⟩
    · simp only [go_sem,cells_nd]
      exact ⟨by simp [ndCells,zW],rfl⟩
    refine dD_p2 rfl (.ptr (st.length + 1) 5) (by simp only [go_sem]) (by simp only [go_sem]) ?_
    refine dD_t2 (d := [3,6,10]) (d2 := [3,6,8,10]) rfl rfl rfl .any rfl ?_ ?_ ?_
    · simp only [go_sem]
    · simp only [go_sem]
    refine dD_end ?_
    simp only [go_sem]
    refine ⟨by decide,find_still (nd := nodeF 9 t.pos x [v,w]) (aid := st.length + 2) hk rfl ?_ (by omega) rfl rfl rfl⟩
    exact (get_sx 2).trans rfl
  | false =>
    simp only [go_sem]
    refine dat_t ht (dat_app hp) ?_
    simp only [go_sem]
    refine dis_t ht b1 (dat_app hp) ?_
    simp only [go_sem]
    refine dis_t ht b2 (dat_app hp) ?_
    simp only [go_sem]
    refine dis_t ht b3 (dat_app hp) ?_
    simp only [go_sem]
    refine dstep_c hT h1 (dat_app hp) ?_
    simp only [go_sem,inS_get hp]
    refine dvalueO_c T hT he (nd := .mk 8 [] 0 t.pos [] []) h2 hp rfl ?_
    unfold ndArr
    simp only [go_sem,inS_get hp]
    refine dwant_c hT h3 (dat_seta hp) fun _ => ?_
    simp only [go_sem,inS_get hp]
    refine awp_drawD [] [3,6,8,10] [([],st.set pid (.cells (dpL T p3)) ++ [.cells zNd,.cells [.sc (.int .i64 8),.sc (.string (ba x)),.sc (.int .i64 0),.sc (.int .i64 t.pos),.slice .full 0 [],.arr (st.length + 2) 1 1],.arr 1 6 (ndCells v)]),([3],st.set pid (.cells (dpL T p4)) ++ [.cells zNd,.cells [.sc (.int .i64 8),.sc (.string (ba x)),.sc (.int .i64 0),.sc (.int .i64 t.pos),.slice .full 0 [],.arr (st.length + 2) 1 1],.arr 1 6 (ndCells v)]),([3,6],st.set pid (.cells (dpL T p4)) ++ [.cells zNd,.cells [.sc (.int .i64 8),.sc (.string (ba x)),.sc (.int .i64 0),.sc (.int .i64 t.pos),.slice .full 0 [],.arr (st.length + 2) 1 1],.arr 2 6 (ndCells v ++ zW)]),
      ([3,6,8],st.set pid (.cells (dpL T p4)) ++ [.cells zNd,.cells [.sc (.int .i64 8),.sc (.string (ba x)),.sc (.int .i64 0),.sc (.int .i64 t.pos),.slice .full 0 [],.arr (st.length + 2) 1 1],.arr 2 6 (ndCells v ++ ndCells w)]),([3,6,10],st.set pid (.cells (dpL T p4)) ++ [.cells zNd,.cells [.sc (.int .i64 8),.sc (.string (ba x)),.sc (.int .i64 0),.sc (.int .i64 t.pos),.slice .full 0 [],.arr (st.length + 2) 2 2],.arr 2 6 (ndCells v ++ zW)]),([3,6,8,10],st.set pid (.cells (dpL T p4)) ++ [.cells zNd,.cells [.sc (.int .i64 8),.sc (.string (ba x)),.sc (.int .i64 0),.sc (.int .i64 t.pos),.slice .full 0 [],.arr (st.length + 2) 2 2],.arr 2 6 (ndCells v ++ ndCells w)])]
      [[[],[3]],[[],[3]],[[]],[[]],[[],[3]],[[],[3]],[[3]],[[3,6],[3,6,10]],[[3,6],[3,6,10]],[[3,6],[3,6,8]],[[3,6],[3,6,8]]] Tryz.mixed rfl rfl rfl rfl rfl ?_
    refine dD_p2 rfl (.ptr (st.length + 1) 5) (by simp only [go_sem]) (by simp only [go_sem]) ?_
    refine dD_p2 rfl (.arr (st.length + 2) 1 1) (by simp only [go_sem]) (by simp only [go_sem]) ?_
    refine dD_p1 rfl (.ptr pid 0) (by simp only [go_sem]) ?_
    refine dD_t1 (d := [3]) rfl rfl (ndSV w) rfl ?_ ?_
    · simp only [go_sem]
      exact he _ _ _ h4 _ _ (dat_seta hp) ⟨rfl,dset_app hp⟩
    refine dD_p2 rfl (.sc (.int .i64 ((1 : Nat) : Int))) (by simp only [go_sem]) (by simp only [go_sem]) ?_
    refine dD_p2 rfl (.slice .full 6 [.agg zW]) ?_ ?_ ?_
    · simp only [go_sem]
      refine ⟨_,?_,rfl⟩
      simp only [go_sem]
      exact ⟨⟨[],by simp⟩,ids_zW _,.inl rfl⟩
    · simp only [go_sem]
      refine ⟨_,?_,rfl⟩
      simp only [go_sem]
      exact ⟨⟨[],by simp⟩,ids_zW _,.inl rfl⟩
    refine dD_t1 (d := [3,6]) rfl rfl (.arr (st.length + 2) 2 2) rfl ?_ ?_
    · simp only [go_sem,zW]
      exact ⟨Tryz.app6 (by omega),rfl⟩
    refine dD_p2 rfl (.aptr (st.length + 2) 2 6) ?_ ?_ ?_
    · simp only [go_sem]
      decide
    · simp only [go_sem]
      decide
    refine dD_t2 (d := [3,6,8]) (d2 := [3,6,8,10]) rfl rfl rfl .any rfl ?_ ?_ ?_
    · simp only [go_sem,cells_nd]
      exact ⟨by simp [ndCells,zW],rfl⟩
    · simp only [go_sem,cells_nd]
      exact ⟨by simp [ndCells,zW],rfl⟩
    refine dD_p2 rfl (.ptr (st.length + 1) 5) (by simp only [go_sem]) (by simp only [go_sem]) ?_
    refine dD_t2 (d := [3,6,10]) (d2 := [3,6,8,10]) rfl rfl rfl .any rfl ?_ ?_ ?_
    · simp only [go_sem]
    · simp only [go_sem]
    refine dD_end ?_
    simp only [go_sem]
    refine ⟨by decide,find_still (nd := nodeF 8 t.pos x [v,w]) (aid := st.length + 2) hk rfl ?_ (by omega) rfl rfl rfl⟩
    exact (get_sx 2).trans rfl
theorem dinnerE_c {T : List Tk} (hT : T.length ≤ 100000) {pid : Nat} {e pt : PM Nd} (he : DC T pid 15 e) (hc : DC T pid 36 (cmpR T e pt)) {p p' : PS} {t : Tk} {r : Nd} (ht : lookF T p = some t)
    (b1 : isT t [108,101,116] = false) (b2 : isT t [102,117,110] = false) (b3 : isT t [105,102] = false) (h : ((cmpR T e pt p).bind fun r => (isF T [59] r.2).bind fun b => if b ∧ ¬ r.2.flat then (stepR T r.2).bind fun q => (e q.2).map fun u => (nodeF 14 r.1.pos [] [r.1,u.1],u.2) else some (r.1,r.2)) = some (r,p')) {K : SV → St → Prop} {st : St} (hp : DAt T pid p st) (hk : K (ndSV r) (st.set pid (.cells (dpL T p')))) : ACalls Tryz.prog 26 [.ptr pid 0] K st := by
  refine acalls_leK (acalls_go_mod [] Tryz.func26 rfl Tryz.results26 Tryz.ntmps26 ?_)
  simp only [Option.bind_eq_some_iff,Prod.exists] at h
  obtain ⟨x,p1,h1,b,h2,h⟩ := h
  have y1 := cells_facts (dat_set (p' := p1) hp)
  unfold dpL at y1
  cases b with
  | false =>
    rw [if_neg (by simp)] at h
    cases h
    simp only [go_sem]
    refine dat_t ht (dat_app hp) ?_
    simp only [go_sem]
    refine dis_t ht b1 (dat_app hp) ?_
    simp only [go_sem]
    refine dis_t ht b2 (dat_app hp) ?_
    simp only [go_sem]
    refine dis_t ht b3 (dat_app hp) ?_
    simp only [go_sem]
    refine hc _ _ _ h1 _ _ (dat_app hp) ?_
    simp only [go_sem,inS_get hp]
    refine dis_c h2 (dat_seta hp) ?_
    simp only [go_sem,inS_get hp]
    exact find_nd' hk
  | true =>
    by_cases hf : p1.flat = true
    · rw [if_neg (by simp [hf])] at h
      cases h
      simp only [go_sem]
      refine dat_t ht (dat_app hp) ?_
      simp only [go_sem]
      refine dis_t ht b1 (dat_app hp) ?_
      simp only [go_sem]
      refine dis_t ht b2 (dat_app hp) ?_
      simp only [go_sem]
      refine dis_t ht b3 (dat_app hp) ?_
      simp only [go_sem]
      refine hc _ _ _ h1 _ _ (dat_app hp) ?_
      simp only [go_sem,inS_get hp]
      refine dis_c h2 (dat_seta hp) ?_
      unfold dpL
      simp only [go_sem,inS_get hp,y1.1,y1.2.1,y1.2.2,hf]
      exact find_ndg hf hk
    · have hf : p1.flat = false := by simpa using hf
      rw [if_pos ⟨rfl,by simp [hf]⟩] at h
      simp only [Option.bind_eq_some_iff,Option.map_eq_some_iff,Prod.exists,Prod.mk.injEq] at h
      obtain ⟨u,p2,h3,w,p3,h4,rfl,rfl⟩ := h
      simp only [go_sem]
      refine dat_t ht (dat_app hp) ?_
      simp only [go_sem]
      refine dis_t ht b1 (dat_app hp) ?_
      simp only [go_sem]
      refine dis_t ht b2 (dat_app hp) ?_
      simp only [go_sem]
      refine dis_t ht b3 (dat_app hp) ?_
      simp only [go_sem]
      refine hc _ _ _ h1 _ _ (dat_app hp) ?_
      simp only [go_sem,inS_get hp]
      refine dis_c h2 (dat_seta hp) ?_
      unfold dpL
      simp only [go_sem,inS_get hp,y1.1,y1.2.1,y1.2.2,hf]
      first | (unfold ACallsH; simp only [put_some,put_none',ev_tmp,List.set_cons_succ,List.set_cons_zero,List.getD_cons_succ,List.getD_cons_zero]) | skip
      refine dstep_c hT h3 (dat_setg hp hf) ?_
      simp only [go_sem,inS_get hp]
      refine awp_drawW [] [(0,[7]),(0,[7]),(0,[7]),(0,[]),(3,[7]),(0,[]),(0,[]),(1,[8])] Tryz.mixed rfl ?_
      simp only [go_sem,drawW_n,drawW_0,drawW_1,drawW_2,drawW_3,pend_n,pend_c,headD_c,isStore_s,cells_nd]
      refine ⟨_,_,he _ _ _ h4 _ _ (dat_seta hp) ⟨rfl,rfl⟩,?_⟩
      simp only [go_sem,drawW_n,drawW_0,drawW_1,drawW_2,drawW_3,pend_n,pend_c,headD_c,isStore_s,inS_get hp]
      rw [dk_eff]
      refine ⟨.slice .full 6 [.agg (ndCells x),ndSV w],?_,?_⟩
      · unfold ndCells
        simp only [go_sem]
        exact ⟨⟨[],by simp⟩,ids_twoN _ x w,.inl rfl⟩
      rw [dk_eff]
      refine ⟨.agg [.sc (.int .i64 14),.sc (.string ⟨#[]⟩),.sc (.int .i64 0),.sc (.int .i64 x.pos),.slice .full 0 [],.slice .full 6 [.agg (ndCells x),ndSV w]],?_,?_⟩
      · unfold ndCells
        simp only [go_sem]
        exact ⟨⟨[],by simp⟩,ids_op (t := []) (ids_twoN _ x w),.inl rfl⟩
      unfold ndCells
      simp only [go_sem,drawW_n,drawW_0,drawW_1,drawW_2,drawW_3,pend_n,pend_c,headD_c,isStore_s]
      exact find_two (t := []) hk
theorem dinner_c {T : List Tk} (hT : T.length ≤ 100000) {pid : Nat} {e pt : PM Nd} (he : DC T pid 15 e) (hc : DC T pid 36 (cmpR T e pt)) : DC T pid 26 (innerR T e pt) := by
  intro p r p' h K st hp hk
  unfold innerR at h
  rw [Option.bind_eq_some_iff] at h
  obtain ⟨t,ht,h⟩ := h
  have no : ∀ {a b : Tx},isT t a = true → a ≠ b → isT t b = false := fun {a b} h1 h2 => by
    cases hb : isT t b with
    | false => rfl
    | true => exact absurd ((isT_iff.1 h1).2.symm.trans (isT_iff.1 hb).2) h2
  cases b1 : isT t [108,101,116] with
  | true =>
    rw [if_pos b1] at h
    exact dinnerL_c hT he hc ht b1 (no b1 (by decide)) (no b1 (by decide)) h hp hk
  | false =>
  rw [if_neg (by rw [b1]; decide)] at h
  cases b2 : isT t [102,117,110] with
  | true =>
    rw [if_pos b2] at h
    exact dinnerF_c hT he hc ht b1 b2 (no b2 (by decide)) h hp hk
  | false =>
  rw [if_neg (by rw [b2]; decide)] at h
  cases b3 : isT t [105,102] with
  | true =>
    rw [if_pos b3] at h
    exact dinnerI_c hT he hc ht b1 b2 b3 h hp hk
  | false =>
  rw [if_neg (by rw [b3]; decide)] at h
  exact dinnerE_c hT he hc ht b1 b2 b3 h hp hk
end Go.Proofs
