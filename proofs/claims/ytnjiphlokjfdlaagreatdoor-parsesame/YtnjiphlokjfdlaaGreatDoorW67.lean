import Derived.Test.YtnjiphlokjfdlaaGreatDoorW66
set_option maxHeartbeats 4000000
set_option linter.unusedSimpArgs false
set_option linter.unusedVariables false
set_option maxRecDepth 8000
namespace Go.AL
def ndArr (nd : Nd) (x : SV) : List SV := [.sc (.int .i64 nd.kind),.sc (.string (ba nd.text)),.sc (.int .i64 nd.num),.sc (.int .i64 nd.pos),.slice .full 0 [],x]
def zW : List SV := [.sc (.int .i64 0),.sc (.string ⟨#[]⟩),.sc (.int .i64 0),.sc (.int .i64 0),.slice .imm 0 [],.slice .imm 0 []]
def S2 (T : List Tk) (pid nid : Nat) (l : List SV) (p : PS) (st : St) : St := (st.set nid (.cells l)).set pid (.cells (dpL T p))
variable {T : List Tk} {pid nid : Nat} {st : St} {p q : PS} {l m : List SV}
theorem s2_at (hp : DAt T pid p st) : DAt T pid q (S2 T pid nid l q st) := by
  have := lt_of_get hp
  exact set_get (by simpa using this)
theorem s2_n (hne : nid ≠ pid) (hn : inS st nid) : (S2 T pid nid l p st)[nid]? = some (.cells l) := by
  unfold S2
  rw [set_get_ne hne]
  exact set_get hn
theorem s2_setp : (S2 T pid nid l p st).set pid (.cells (dpL T q)) = S2 T pid nid l q st := by unfold S2; rw [List.set_set]
theorem s2_setn (hne : nid ≠ pid) : (S2 T pid nid l p st).set nid (.cells m) = S2 T pid nid m p st := by
  unfold S2
  rw [List.set_comm _ _ (Ne.symm hne),List.set_set]
theorem s2_of (hne : nid ≠ pid) (hn : st[nid]? = some (.cells l)) : st.set pid (.cells (dpL T p)) = S2 T pid nid l p st := by
  unfold S2
  obtain ⟨h1,h2⟩ := List.getElem?_eq_some_iff.1 hn
  rw [← h2,List.set_getElem_self]
theorem s2_len : (S2 T pid nid l p st).length = st.length := by unfold S2; simp
theorem ids_zW (n : Nat) : Ids n (.slice .full 6 [.agg zW]) := ids_slice (.inr rfl) fun x hx y hy => by
  simp only [List.mem_singleton] at hx
  subst hx
  simp only [SV.cells,zW,List.mem_cons,List.not_mem_nil,or_false] at hy
  rcases hy with rfl | rfl | rfl | rfl | rfl | rfl
  · exact .sc _
  · exact .sc _
  · exact .sc _
  · exact .sc _
  · exact ids_slice (.inl rfl) (fun x hx => by cases hx)
  · exact ids_slice (.inl rfl) (fun x hx => by cases hx)
end Go.AL
namespace Go.Proofs
open Go Go.AL
theorem dvalue_c (T : List Tk) (hT : T.length ≤ 100000) {pid nid : Nat} (hne : nid ≠ pid) {e : PM Nd} (he : DC T pid 15 e) {nd : Nd} {p p' : PS} {x : Tx} {rc : Bool} {v : Nd} (h : valueR T e p = some ((x,rc,v),p')) {K : SV → St → Prop} {st : St} (hp : DAt T pid p st)
    (hn : st[nid]? = some (.cells (ndArr nd (.slice .full 0 [])))) (hk : K (.sc (.bool rc)) (S2 T pid nid (ndArr (.mk nd.kind x nd.num nd.pos [] []) (.arr st.length 1 1)) p' st ++ [.arr 1 6 (ndCells v)])) : ACalls Tryz.prog 24 [.ptr pid 0,.ptr nid 0] K st := by
  refine acalls_go (M := [1000043]) Tryz.func24 rfl Tryz.results24 Tryz.ntmps24 ?_
  unfold valueR at h
  simp only [Option.bind_eq_some_iff,Option.map_eq_some_iff,Prod.exists,Prod.mk.injEq] at h
  obtain ⟨b,p1,h1,x1,p2,h2,p3,h3,f,h4,p4,h5,v1,p5,h6,⟨rfl,rfl,rfl⟩,rfl⟩ := h
  obtain ⟨t1,g1,g2,g3,g4,g5⟩ := may_is h1
  have hin : inS st nid := inS_get hn
  have hst0 := fun q : PS => s2_of (T := T) (pid := pid) (p := q) hne hn
  have y0 := fun (l : List SV) (q : PS) => cells_facts (s2_n (T := T) (pid := pid) (st := st) (p := q) (l := l) hne hin)
  have y1 := fun l q => (y0 l q).1
  have y2 := fun l q => (y0 l q).2.1
  have y3 := fun l q => (y0 l q).2.2
  have hsn := fun (l m : List SV) (q : PS) => s2_setn (T := T) (pid := pid) (st := st) (p := q) (l := l) (m := m) hne
  have hsp := fun (l : List SV) (q q' : PS) => s2_setp (T := T) (pid := pid) (nid := nid) (st := st) (p := q) (q := q') (l := l)
  have yp0 := fun (l : List SV) (q : PS) => cells_facts (s2_at (nid := nid) (l := l) (q := q) hp)
  have yp1 := fun l q => (yp0 l q).1
  have yp2 := fun l q => (yp0 l q).2.1
  have yp3 := fun l q => (yp0 l q).2.2
  cases b with
  | false =>
    obtain rfl := g5 rfl
    have hc : (if false = true ∧ ¬ f = true ∧ p3.deep < 40 then failF T 14 p3 else some p3) = some p4 := h5
    rw [if_neg (by simp)] at hc
    cases hc
    simp only [go_sem]
    refine dis_c g3 hp ?_
    simp only [go_sem]
    refine dtext_c hT (by decide) h2 hp ?_
    simp only [hst0]
    simp only [go_sem,y1,y2,y3,hsn,ndArr]
    refine dwant_c hT h3 (s2_at hp) fun _ => ?_
    simp only [hsp]
    simp only [go_sem,y1,y2,y3,hsn]
    refine dis_c h4 (s2_at hp) ?_
    simp only [go_sem,y1,y2,y3,hsn,yp1,yp2,yp3,dpL]
    refine awp_drawD [1000043] [5,8,10,13] [([],S2 T pid nid [.sc (.int .i64 nd.kind),.sc (.string (ba x1)),.sc (.int .i64 nd.num),.sc (.int .i64 nd.pos),.slice .full 0 [],.slice .full 0 []] p3 st),([5],S2 T pid nid [.sc (.int .i64 nd.kind),.sc (.string (ba x1)),.sc (.int .i64 nd.num),.sc (.int .i64 nd.pos),.slice .full 0 [],.slice .full 0 []] p5 st),([5,8],S2 T pid nid [.sc (.int .i64 nd.kind),.sc (.string (ba x1)),.sc (.int .i64 nd.num),.sc (.int .i64 nd.pos),.slice .full 0 [],.slice .full 0 []] p5 st ++ [.arr 1 6 zW]),
      ([5,8,10],S2 T pid nid [.sc (.int .i64 nd.kind),.sc (.string (ba x1)),.sc (.int .i64 nd.num),.sc (.int .i64 nd.pos),.slice .full 0 [],.slice .full 0 []] p5 st ++ [.arr 1 6 (ndCells v1)]),([5,8,13],S2 T pid nid [.sc (.int .i64 nd.kind),.sc (.string (ba x1)),.sc (.int .i64 nd.num),.sc (.int .i64 nd.pos),.slice .full 0 [],.arr st.length 1 1] p5 st ++ [.arr 1 6 zW]),([5,8,10,13],S2 T pid nid [.sc (.int .i64 nd.kind),.sc (.string (ba x1)),.sc (.int .i64 nd.num),.sc (.int .i64 nd.pos),.slice .full 0 [],.arr st.length 1 1] p5 st ++ [.arr 1 6 (ndCells v1)])]
      [[[],[5]],[[],[5]],[[],[5]],[[],[5]],[[]],[[]],[[],[5]],[[],[5]],[[5]],[[5,8],[5,8,13]],[[5,8],[5,8,13]],[[5,8],[5,8,10]],[[5,8],[5,8,10]],[[5,8],[5,8,10]]] Tryz.mixed rfl rfl rfl rfl rfl ?_
    refine dD_p2 rfl (.ptr nid 0) (by simp only [go_sem]) (by simp only [go_sem]) ?_
    refine dD_p2 rfl (.ptr nid 0) (by simp only [go_sem,y1,y2,y3,hsn,s2_len]) (by simp only [go_sem,y1,y2,y3,hsn,s2_len]) ?_
    refine dD_p2 rfl (.ptr nid 5) (by simp only [go_sem,y1,y2,y3,hsn,s2_len]) (by simp only [go_sem,y1,y2,y3,hsn,s2_len]) ?_
    refine dD_p2 rfl (.slice .full 0 []) (by simp only [go_sem,y1,y2,y3,hsn,s2_len]) (by simp only [go_sem,y1,y2,y3,hsn,s2_len]) ?_
    refine dD_p1 rfl (.ptr pid 0) (by simp only [go_sem]) ?_
    refine dD_t1 (d := [5]) rfl rfl (ndSV v1) rfl ?_ ?_
    · simp only [go_sem]
      exact he _ _ _ h6 _ _ (s2_at hp) ⟨rfl,hsp _ _ _⟩
    refine dD_p2 rfl (.sc (.int .i64 ((0 : Nat) : Int))) (by simp only [go_sem]) (by simp only [go_sem]) ?_
    refine dD_p2 rfl (.slice .full 6 [.agg zW]) ?_ ?_ ?_
    · simp only [go_sem]
      refine ⟨_,?_,rfl⟩
      simp only [go_sem]
      exact ⟨⟨[],by simp⟩,ids_zW _,.inl rfl⟩
    · simp only [go_sem]
      refine ⟨_,?_,rfl⟩
      simp only [go_sem]
      exact ⟨⟨[],by simp⟩,ids_zW _,.inl rfl⟩
    refine dD_t1 (d := [5,8]) rfl rfl (.arr st.length 1 1) rfl ?_ ?_
    · simp only [go_sem,y1,y2,y3,hsn,s2_len,zW]
      exact ⟨Tryz.app6 (by omega),rfl⟩
    refine dD_p2 rfl (.aptr st.length 1 0) ?_ ?_ ?_
    · simp only [go_sem,y1,y2,y3,hsn,s2_len]
      decide
    · simp only [go_sem,y1,y2,y3,hsn,s2_len]
      decide
    refine dD_t2 (d := [5,8,10]) (d2 := [5,8,10,13]) rfl rfl rfl .any rfl ?_ ?_ ?_
    · simp only [go_sem,y1,y2,y3,hsn,s2_len,cells_nd]
      exact ⟨by decide,rfl⟩
    · simp only [go_sem,y1,y2,y3,hsn,s2_len,cells_nd]
      exact ⟨by decide,rfl⟩
    refine dD_p2 rfl (.ptr nid 0) (by simp only [go_sem,y1,y2,y3,hsn,s2_len]) (by simp only [go_sem,y1,y2,y3,hsn,s2_len]) ?_
    refine dD_p2 rfl (.ptr nid 5) (by simp only [go_sem,y1,y2,y3,hsn,s2_len]) (by simp only [go_sem,y1,y2,y3,hsn,s2_len]) ?_
    refine dD_t2 (d := [5,8,13]) (d2 := [5,8,10,13]) rfl rfl rfl .any rfl ?_ ?_ ?_
    · simp only [go_sem,y1,y2,y3,hsn,s2_len]
    · simp only [go_sem,y1,y2,y3,hsn,s2_len]
    refine dD_end ?_
    simp only [go_sem]
    exact hk
  | true =>
    have hs1 := (g4 rfl).1
    cases f with
    | true =>
      rw [if_neg (by simp)] at h5
      cases h5
      simp only [go_sem]
      refine dis_c g3 hp ?_
      simp only [go_sem]
      refine dstep_c hT hs1 hp ?_
      simp only [hst0]
      simp only [go_sem]
      refine dtext_c hT (by decide) h2 (s2_at hp) ?_
      simp only [hsp]
      simp only [go_sem,y1,y2,y3,hsn,ndArr]
      refine dwant_c hT h3 (s2_at hp) fun _ => ?_
      simp only [hsp]
      simp only [go_sem,y1,y2,y3,hsn]
      refine dis_c h4 (s2_at hp) ?_
      simp only [go_sem,y1,y2,y3,hsn,yp1,yp2,yp3,dpL]
      refine awp_drawD [1000043] [5,8,10,13] [([],S2 T pid nid [.sc (.int .i64 nd.kind),.sc (.string (ba x1)),.sc (.int .i64 nd.num),.sc (.int .i64 nd.pos),.slice .full 0 [],.slice .full 0 []] p3 st),([5],S2 T pid nid [.sc (.int .i64 nd.kind),.sc (.string (ba x1)),.sc (.int .i64 nd.num),.sc (.int .i64 nd.pos),.slice .full 0 [],.slice .full 0 []] p5 st),([5,8],S2 T pid nid [.sc (.int .i64 nd.kind),.sc (.string (ba x1)),.sc (.int .i64 nd.num),.sc (.int .i64 nd.pos),.slice .full 0 [],.slice .full 0 []] p5 st ++ [.arr 1 6 zW]),
        ([5,8,10],S2 T pid nid [.sc (.int .i64 nd.kind),.sc (.string (ba x1)),.sc (.int .i64 nd.num),.sc (.int .i64 nd.pos),.slice .full 0 [],.slice .full 0 []] p5 st ++ [.arr 1 6 (ndCells v1)]),([5,8,13],S2 T pid nid [.sc (.int .i64 nd.kind),.sc (.string (ba x1)),.sc (.int .i64 nd.num),.sc (.int .i64 nd.pos),.slice .full 0 [],.arr st.length 1 1] p5 st ++ [.arr 1 6 zW]),([5,8,10,13],S2 T pid nid [.sc (.int .i64 nd.kind),.sc (.string (ba x1)),.sc (.int .i64 nd.num),.sc (.int .i64 nd.pos),.slice .full 0 [],.arr st.length 1 1] p5 st ++ [.arr 1 6 (ndCells v1)])]
        [[[],[5]],[[],[5]],[[],[5]],[[],[5]],[[]],[[]],[[],[5]],[[],[5]],[[5]],[[5,8],[5,8,13]],[[5,8],[5,8,13]],[[5,8],[5,8,10]],[[5,8],[5,8,10]],[[5,8],[5,8,10]]] Tryz.mixed rfl rfl rfl rfl rfl ?_
      refine dD_p2 rfl (.ptr nid 0) (by simp only [go_sem]) (by simp only [go_sem]) ?_
      refine dD_p2 rfl (.ptr nid 0) (by simp only [go_sem,y1,y2,y3,hsn,s2_len]) (by simp only [go_sem,y1,y2,y3,hsn,s2_len]) ?_
      refine dD_p2 rfl (.ptr nid 5) (by simp only [go_sem,y1,y2,y3,hsn,s2_len]) (by simp only [go_sem,y1,y2,y3,hsn,s2_len]) ?_
      refine dD_p2 rfl (.slice .full 0 []) (by simp only [go_sem,y1,y2,y3,hsn,s2_len]) (by simp only [go_sem,y1,y2,y3,hsn,s2_len]) ?_
      refine dD_p1 rfl (.ptr pid 0) (by simp only [go_sem]) ?_
      refine dD_t1 (d := [5]) rfl rfl (ndSV v1) rfl ?_ ?_
      · simp only [go_sem]
        exact he _ _ _ h6 _ _ (s2_at hp) ⟨rfl,hsp _ _ _⟩
      refine dD_p2 rfl (.sc (.int .i64 ((0 : Nat) : Int))) (by simp only [go_sem]) (by simp only [go_sem]) ?_
      refine dD_p2 rfl (.slice .full 6 [.agg zW]) ?_ ?_ ?_
      · simp only [go_sem]
        refine ⟨_,?_,rfl⟩
        simp only [go_sem]
        exact ⟨⟨[],by simp⟩,ids_zW _,.inl rfl⟩
      · simp only [go_sem]
        refine ⟨_,?_,rfl⟩
        simp only [go_sem]
        exact ⟨⟨[],by simp⟩,ids_zW _,.inl rfl⟩
      refine dD_t1 (d := [5,8]) rfl rfl (.arr st.length 1 1) rfl ?_ ?_
      · simp only [go_sem,y1,y2,y3,hsn,s2_len,zW]
        exact ⟨Tryz.app6 (by omega),rfl⟩
      refine dD_p2 rfl (.aptr st.length 1 0) ?_ ?_ ?_
      · simp only [go_sem,y1,y2,y3,hsn,s2_len]
        decide
      · simp only [go_sem,y1,y2,y3,hsn,s2_len]
        decide
      refine dD_t2 (d := [5,8,10]) (d2 := [5,8,10,13]) rfl rfl rfl .any rfl ?_ ?_ ?_
      · simp only [go_sem,y1,y2,y3,hsn,s2_len,cells_nd]
        exact ⟨by decide,rfl⟩
      · simp only [go_sem,y1,y2,y3,hsn,s2_len,cells_nd]
        exact ⟨by decide,rfl⟩
      refine dD_p2 rfl (.ptr nid 0) (by simp only [go_sem,y1,y2,y3,hsn,s2_len]) (by simp only [go_sem,y1,y2,y3,hsn,s2_len]) ?_
      refine dD_p2 rfl (.ptr nid 5) (by simp only [go_sem,y1,y2,y3,hsn,s2_len]) (by simp only [go_sem,y1,y2,y3,hsn,s2_len]) ?_
      refine dD_t2 (d := [5,8,13]) (d2 := [5,8,10,13]) rfl rfl rfl .any rfl ?_ ?_ ?_
      · simp only [go_sem,y1,y2,y3,hsn,s2_len]
      · simp only [go_sem,y1,y2,y3,hsn,s2_len]
      refine dD_end ?_
      simp only [go_sem]
      exact hk
    | false =>
      by_cases hd : p3.deep < 40
      · have c1 : decide ((p3.deep : Int) < 40) = true := by simp; omega
        rw [if_pos ⟨rfl,by simp,hd⟩] at h5
        simp only [go_sem]
        refine dis_c g3 hp ?_
        simp only [go_sem]
        refine dstep_c hT hs1 hp ?_
        simp only [hst0]
        simp only [go_sem]
        refine dtext_c hT (by decide) h2 (s2_at hp) ?_
        simp only [hsp]
        simp only [go_sem,y1,y2,y3,hsn,ndArr]
        refine dwant_c hT h3 (s2_at hp) fun _ => ?_
        simp only [hsp]
        simp only [go_sem,y1,y2,y3,hsn]
        refine dis_c h4 (s2_at hp) ?_
        simp only [go_sem,y1,y2,y3,hsn,yp1,yp2,yp3,dpL,c1]
        refine dfail_c h5 (s2_at hp) fun _ => ?_
        simp only [hsp]
        simp only [go_sem]
        refine awp_drawD [1000043] [5,8,10,13] [([],S2 T pid nid [.sc (.int .i64 nd.kind),.sc (.string (ba x1)),.sc (.int .i64 nd.num),.sc (.int .i64 nd.pos),.slice .full 0 [],.slice .full 0 []] p4 st),([5],S2 T pid nid [.sc (.int .i64 nd.kind),.sc (.string (ba x1)),.sc (.int .i64 nd.num),.sc (.int .i64 nd.pos),.slice .full 0 [],.slice .full 0 []] p5 st),([5,8],S2 T pid nid [.sc (.int .i64 nd.kind),.sc (.string (ba x1)),.sc (.int .i64 nd.num),.sc (.int .i64 nd.pos),.slice .full 0 [],.slice .full 0 []] p5 st ++ [.arr 1 6 zW]),
          ([5,8,10],S2 T pid nid [.sc (.int .i64 nd.kind),.sc (.string (ba x1)),.sc (.int .i64 nd.num),.sc (.int .i64 nd.pos),.slice .full 0 [],.slice .full 0 []] p5 st ++ [.arr 1 6 (ndCells v1)]),([5,8,13],S2 T pid nid [.sc (.int .i64 nd.kind),.sc (.string (ba x1)),.sc (.int .i64 nd.num),.sc (.int .i64 nd.pos),.slice .full 0 [],.arr st.length 1 1] p5 st ++ [.arr 1 6 zW]),([5,8,10,13],S2 T pid nid [.sc (.int .i64 nd.kind),.sc (.string (ba x1)),.sc (.int .i64 nd.num),.sc (.int .i64 nd.pos),.slice .full 0 [],.arr st.length 1 1] p5 st ++ [.arr 1 6 (ndCells v1)])]
          [[[],[5]],[[],[5]],[[],[5]],[[],[5]],[[]],[[]],[[],[5]],[[],[5]],[[5]],[[5,8],[5,8,13]],[[5,8],[5,8,13]],[[5,8],[5,8,10]],[[5,8],[5,8,10]],[[5,8],[5,8,10]]] Tryz.mixed rfl rfl rfl rfl rfl ?_
        refine dD_p2 rfl (.ptr nid 0) (by simp only [go_sem]) (by simp only [go_sem]) ?_
        refine dD_p2 rfl (.ptr nid 0) (by simp only [go_sem,y1,y2,y3,hsn,s2_len]) (by simp only [go_sem,y1,y2,y3,hsn,s2_len]) ?_
        refine dD_p2 rfl (.ptr nid 5) (by simp only [go_sem,y1,y2,y3,hsn,s2_len]) (by simp only [go_sem,y1,y2,y3,hsn,s2_len]) ?_
        refine dD_p2 rfl (.slice .full 0 []) (by simp only [go_sem,y1,y2,y3,hsn,s2_len]) (by simp only [go_sem,y1,y2,y3,hsn,s2_len]) ?_
        refine dD_p1 rfl (.ptr pid 0) (by simp only [go_sem]) ?_
        refine dD_t1 (d := [5]) rfl rfl (ndSV v1) rfl ?_ ?_
        · simp only [go_sem]
          exact he _ _ _ h6 _ _ (s2_at hp) ⟨rfl,hsp _ _ _⟩
        refine dD_p2 rfl (.sc (.int .i64 ((0 : Nat) : Int))) (by simp only [go_sem]) (by simp only [go_sem]) ?_
        refine dD_p2 rfl (.slice .full 6 [.agg zW]) ?_ ?_ ?_
        · simp only [go_sem]
          refine ⟨_,?_,rfl⟩
          simp only [go_sem]
          exact ⟨⟨[],by simp⟩,ids_zW _,.inl rfl⟩
        · simp only [go_sem]
          refine ⟨_,?_,rfl⟩
          simp only [go_sem]
          exact ⟨⟨[],by simp⟩,ids_zW _,.inl rfl⟩
        refine dD_t1 (d := [5,8]) rfl rfl (.arr st.length 1 1) rfl ?_ ?_
        · simp only [go_sem,y1,y2,y3,hsn,s2_len,zW]
          exact ⟨Tryz.app6 (by omega),rfl⟩
        refine dD_p2 rfl (.aptr st.length 1 0) ?_ ?_ ?_
        · simp only [go_sem,y1,y2,y3,hsn,s2_len]
          decide
        · simp only [go_sem,y1,y2,y3,hsn,s2_len]
          decide
        refine dD_t2 (d := [5,8,10]) (d2 := [5,8,10,13]) rfl rfl rfl .any rfl ?_ ?_ ?_
        · simp only [go_sem,y1,y2,y3,hsn,s2_len,cells_nd]
          exact ⟨by decide,rfl⟩
        · simp only [go_sem,y1,y2,y3,hsn,s2_len,cells_nd]
          exact ⟨by decide,rfl⟩
        refine dD_p2 rfl (.ptr nid 0) (by simp only [go_sem,y1,y2,y3,hsn,s2_len]) (by simp only [go_sem,y1,y2,y3,hsn,s2_len]) ?_
        refine dD_p2 rfl (.ptr nid 5) (by simp only [go_sem,y1,y2,y3,hsn,s2_len]) (by simp only [go_sem,y1,y2,y3,hsn,s2_len]) ?_
        refine dD_t2 (d := [5,8,13]) (d2 := [5,8,10,13]) rfl rfl rfl .any rfl ?_ ?_ ?_
        · simp only [go_sem,y1,y2,y3,hsn,s2_len]
        · simp only [go_sem,y1,y2,y3,hsn,s2_len]
        refine dD_end ?_
        simp only [go_sem]
        exact hk
      · have c1 : decide ((p3.deep : Int) < 40) = false := by simp; omega
        rw [if_neg (fun x => hd x.2.2)] at h5
        cases h5
        simp only [go_sem]
        refine dis_c g3 hp ?_
        simp only [go_sem]
        refine dstep_c hT hs1 hp ?_
        simp only [hst0]
        simp only [go_sem]
        refine dtext_c hT (by decide) h2 (s2_at hp) ?_
        simp only [hsp]
        simp only [go_sem,y1,y2,y3,hsn,ndArr]
        refine dwant_c hT h3 (s2_at hp) fun _ => ?_
        simp only [hsp]
        simp only [go_sem,y1,y2,y3,hsn]
        refine dis_c h4 (s2_at hp) ?_
        simp only [go_sem,y1,y2,y3,hsn,yp1,yp2,yp3,dpL,c1]
        refine awp_drawD [1000043] [5,8,10,13] [([],S2 T pid nid [.sc (.int .i64 nd.kind),.sc (.string (ba x1)),.sc (.int .i64 nd.num),.sc (.int .i64 nd.pos),.slice .full 0 [],.slice .full 0 []] p3 st),([5],S2 T pid nid [.sc (.int .i64 nd.kind),.sc (.string (ba x1)),.sc (.int .i64 nd.num),.sc (.int .i64 nd.pos),.slice .full 0 [],.slice .full 0 []] p5 st),([5,8],S2 T pid nid [.sc (.int .i64 nd.kind),.sc (.string (ba x1)),.sc (.int .i64 nd.num),.sc (.int .i64 nd.pos),.slice .full 0 [],.slice .full 0 []] p5 st ++ [.arr 1 6 zW]),
          ([5,8,10],S2 T pid nid [.sc (.int .i64 nd.kind),.sc (.string (ba x1)),.sc (.int .i64 nd.num),.sc (.int .i64 nd.pos),.slice .full 0 [],.slice .full 0 []] p5 st ++ [.arr 1 6 (ndCells v1)]),([5,8,13],S2 T pid nid [.sc (.int .i64 nd.kind),.sc (.string (ba x1)),.sc (.int .i64 nd.num),.sc (.int .i64 nd.pos),.slice .full 0 [],.arr st.length 1 1] p5 st ++ [.arr 1 6 zW]),([5,8,10,13],S2 T pid nid [.sc (.int .i64 nd.kind),.sc (.string (ba x1)),.sc (.int .i64 nd.num),.sc (.int .i64 nd.pos),.slice .full 0 [],.arr st.length 1 1] p5 st ++ [.arr 1 6 (ndCells v1)])]
          [[[],[5]],[[],[5]],[[],[5]],[[],[5]],[[]],[[]],[[],[5]],[[],[5]],[[5]],[[5,8],[5,8,13]],[[5,8],[5,8,13]],[[5,8],[5,8,10]],[[5,8],[5,8,10]],[[5,8],[5,8,10]]] Tryz.mixed rfl rfl rfl rfl rfl ?_
        refine dD_p2 rfl (.ptr nid 0) (by simp only [go_sem]) (by simp only [go_sem]) ?_
        refine dD_p2 rfl (.ptr nid 0) (by simp only [go_sem,y1,y2,y3,hsn,s2_len]) (by simp only [go_sem,y1,y2,y3,hsn,s2_len]) ?_
        refine dD_p2 rfl (.ptr nid 5) (by simp only [go_sem,y1,y2,y3,hsn,s2_len]) (by simp only [go_sem,y1,y2,y3,hsn,s2_len]) ?_
        refine dD_p2 rfl (.slice .full 0 []) (by simp only [go_sem,y1,y2,y3,hsn,s2_len]) (by simp only [go_sem,y1,y2,y3,hsn,s2_len]) ?_
        refine dD_p1 rfl (.ptr pid 0) (by simp only [go_sem]) ?_
        refine dD_t1 (d := [5]) rfl rfl (ndSV v1) rfl ?_ ?_
        · simp only [go_sem]
          exact he _ _ _ h6 _ _ (s2_at hp) ⟨rfl,hsp _ _ _⟩
        refine dD_p2 rfl (.sc (.int .i64 ((0 : Nat) : Int))) (by simp only [go_sem]) (by simp only [go_sem]) ?_
        refine dD_p2 rfl (.slice .full 6 [.agg zW]) ?_ ?_ ?_
        · simp only [go_sem]
          refine ⟨_,?_,rfl⟩
          simp only [go_sem]
          exact ⟨⟨[],by simp⟩,ids_zW _,.inl rfl⟩
        · simp only [go_sem]
          refine ⟨_,?_,rfl⟩
          simp only [go_sem]
          exact ⟨⟨[],by simp⟩,ids_zW _,.inl rfl⟩
        refine dD_t1 (d := [5,8]) rfl rfl (.arr st.length 1 1) rfl ?_ ?_
        · simp only [go_sem,y1,y2,y3,hsn,s2_len,zW]
          exact ⟨Tryz.app6 (by omega),rfl⟩
        refine dD_p2 rfl (.aptr st.length 1 0) ?_ ?_ ?_
        · simp only [go_sem,y1,y2,y3,hsn,s2_len]
          decide
        · simp only [go_sem,y1,y2,y3,hsn,s2_len]
          decide
        refine dD_t2 (d := [5,8,10]) (d2 := [5,8,10,13]) rfl rfl rfl .any rfl ?_ ?_ ?_
        · simp only [go_sem,y1,y2,y3,hsn,s2_len,cells_nd]
          exact ⟨by decide,rfl⟩
        · simp only [go_sem,y1,y2,y3,hsn,s2_len,cells_nd]
          exact ⟨by decide,rfl⟩
        refine dD_p2 rfl (.ptr nid 0) (by simp only [go_sem,y1,y2,y3,hsn,s2_len]) (by simp only [go_sem,y1,y2,y3,hsn,s2_len]) ?_
        refine dD_p2 rfl (.ptr nid 5) (by simp only [go_sem,y1,y2,y3,hsn,s2_len]) (by simp only [go_sem,y1,y2,y3,hsn,s2_len]) ?_
        refine dD_t2 (d := [5,8,13]) (d2 := [5,8,10,13]) rfl rfl rfl .any rfl ?_ ?_ ?_
        · simp only [go_sem,y1,y2,y3,hsn,s2_len]
        · simp only [go_sem,y1,y2,y3,hsn,s2_len]
        refine dD_end ?_
        simp only [go_sem]
        exact hk
end Go.Proofs
