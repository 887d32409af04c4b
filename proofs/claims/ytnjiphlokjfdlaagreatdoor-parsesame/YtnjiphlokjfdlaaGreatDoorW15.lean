import Derived.Test.YtnjiphlokjfdlaaGreatDoorW14
import Derived.Test.YtnjiphlokjfdlaaGreatDoorW8
import Derived.Test.YtnjiphlokjfdlaaGreatDoorN1
set_option maxHeartbeats 4000000
set_option linter.unusedSimpArgs false
set_option linter.unusedVariables false
set_option maxRecDepth 8000
namespace Go.AL
def tbl0 (S : St) (X : Ob) : List (List Nat × St) := [([],S),([0],S ++ [X])]
theorem tbl0_n {S : St} {X : Ob} : look (tbl0 S X) [] = S := rfl
theorem tbl0_0 {S : St} {X : Ob} : look (tbl0 S X) [0] = S ++ [X] := rfl
end Go.AL
namespace Go.Proofs
open Go Go.AL
theorem Tryz.amap78 : aMap Tryz.prog 78 = some (9,.string,69) := by kernel_rfl
theorem Tryz.zeroSV69 : zeroSV Tryz.prog 69 = some (.sc .nilFunc) := by kernel_rfl
def fnE (l : List (Tx × FuncId)) : List (Value × SV) := l.map fun q => (.string (ba q.1),.func (.func q.2) [] [])
def expsE : List (Tx × FuncId) := [([108,101,116],78),([102,117,110],79),([105,102],80)]
theorem keyGood_str {P : Program} {kt : TypeId} (b : ByteArray) : keyGood P kt .string (.string b) = true := by simp [keyGood,keyFits]
theorem fnE_all {P : Program} {kt : TypeId} (l : List (Tx × FuncId)) : (fnE l).all (fun q => keyGood P kt .string q.1) = true := by
  rw [List.all_eq_true]
  intro q hq
  obtain ⟨a,_,rfl⟩ := List.mem_map.1 hq
  exact keyGood_str _
theorem putF {s : Tx} {f : FuncId} {mid : Nat} {l : List (Tx × FuncId)} {st : St} {N : St → Prop} (hm : st[mid]? = some (.map (fnE l))) (hn : mapPut (fnE l) (.string (ba s)) (.func (.func f) [] []) = fnE (l ++ [(s,f)])) :
    putSpec Tryz.prog 78 st (.mp mid) (.sc (.string (ba s))) (.func (.func f) [] []) N = N (st.set mid (.map (fnE (l ++ [(s,f)])))) := by
  simp only [putSpec,mapOk,AL.keyOf,Tryz.amap78,(map_facts hm).2,keyGood_str,fnE_all,Bool.and_self,if_true,hn]
theorem putF_step {s : Tx} {f : FuncId} {st : St} {l : List (Tx × FuncId)} {N : St → Prop} (hn : mapPut (fnE l) (.string (ba s)) (.func (.func f) [] []) = fnE (l ++ [(s,f)]))
    (h : N (st ++ [.map (fnE (l ++ [(s,f)]))])) : putSpec Tryz.prog 78 (st ++ [.map (fnE l)]) (.mp st.length) (.sc (.string (ba s))) (.func (.func f) [] []) N := by
  rw [putF (l := l) (by simp) hn]
  have : (st ++ [Ob.map (fnE l)]).set st.length (.map (fnE (l ++ [(s,f)]))) = st ++ [.map (fnE (l ++ [(s,f)]))] := by
    rw [List.set_append_right _ _ (Nat.le_refl _)]; simp
  rw [this]; exact h
theorem putF3 {st : St} {N : St → Prop} (h : N (st ++ [.map (fnE expsE)])) :
    putSpec Tryz.prog 78 (st ++ [.map []]) (.mp st.length) (.sc (.string ⟨#[108,101,116]⟩)) (.func (.func 78) [] []) fun x => putSpec Tryz.prog 78 x (.mp st.length) (.sc (.string ⟨#[102,117,110]⟩)) (.func (.func 79) [] []) fun x => putSpec Tryz.prog 78 x (.mp st.length) (.sc (.string ⟨#[105,102]⟩)) (.func (.func 80) [] []) N :=
  putF_step (l := []) (s := [108,101,116]) rfl (putF_step (l := [([108,101,116],78)]) (s := [102,117,110]) rfl (putF_step (l := [([108,101,116],78),([102,117,110],79)]) (s := [105,102]) rfl h))
theorem exps_c {K : SV → St → Prop} {st : St} (hk : K (.mp st.length) (st ++ [.map (fnE expsE)])) : ACalls Tryz.prog 65 [] K st := by
  refine acalls_go (M := []) Tryz.func65 rfl Tryz.results65 Tryz.ntmps65 ?_
  simp only [go_sem]
  exact putF3 hk
theorem ba_beq (s t : Tx) : keyEq (.string (ba s)) (.string (ba t)) = decide (s = t) := by
  have := keyEq1_iff (d := .string) (a := .string (ba s)) (b := .string (ba t)) (by simp [keyFits]) (by simp [keyFits])
  by_cases hc : s = t
  · subst hc; simp only [decide_true]; exact this.2 rfl
  · simp only [hc,decide_false]
    cases hk : keyEq (.string (ba s)) (.string (ba t)) with
    | false => rfl
    | true =>
      exfalso; apply hc
      have h := this.1 hk
      have h2 : ba s = ba t := Value.string.inj h
      have h3 := congrArg (fun b : ByteArray => b.data.toList) h2
      exact h3
theorem exps_get {st : St} {id : Nat} (hid : mapAt st id = some (fnE expsE)) (s : Tx) : mapGet Tryz.prog 78 st (.mp id) (.sc (.string (ba s))) =
    some (if s = [108,101,116] then (.func (.func 78) [] [],true) else if s = [102,117,110] then (.func (.func 79) [] [],true) else if s = [105,102] then (.func (.func 80) [] [],true) else (.sc .nilFunc,false)) := by
  simp only [mapGet,AL.keyOf,Tryz.amap78,hid,Tryz.zeroSV69,keyGood_str,fnE_all,Bool.and_self,if_true]
  unfold keyIdx fnE expsE
  simp only [List.map_cons,List.map_nil,List.findIdx?_cons,ba_beq,List.findIdx?_nil]
  by_cases h1 : s = [108,101,116]
  · simp [h1]
  by_cases h2 : s = [102,117,110]
  · simp [h1,h2]
  by_cases h3 : s = [105,102]
  · simp [h1,h2,h3]
  · simp [h1,h2,h3]
theorem Tryz.aIsFunc69 : aIsFunc Tryz.prog 69 = true := by kernel_rfl
theorem psL_flat {T : List Tk} {p : PS} {b : Bool} (h : p.flat = b) : [SV.slice .imm 4 (T.map tkSV),.sc (.int .i64 p.pos),.sc (.int .i64 p.deep),.sc (.bool b),.sc (.int .i64 p.bad),.sc (.int .i64 p.e)] = psL T p := by subst h; rfl
theorem psat_setf {T : List Tk} {pid : Nat} {p p0 : PS} {b : Bool} (h : p.flat = b) {st ex : St} (hp : PAt T pid p0 st) :
    PAt T pid p (st.set pid (.cells [SV.slice .imm 4 (T.map tkSV),.sc (.int .i64 p.pos),.sc (.int .i64 p.deep),.sc (.bool b),.sc (.int .i64 p.bad),.sc (.int .i64 p.e)]) ++ ex) := by
  rw [psL_flat h]; exact psat_seta hp
theorem fin_ndf {T : List Tk} {pid : Nat} {p' : PS} {nd : Nd} {st : St} {K : SV → St → Prop} {b : Bool} (h : p'.flat = b) (hk : K (ndSV nd) (st.set pid (.cells (psL T p')))) {ex : St} :
    FinM st (LeK K) (ndSV nd) (st.set pid (.cells [SV.slice .imm 4 (T.map tkSV),.sc (.int .i64 p'.pos),.sc (.int .i64 p'.deep),.sc (.bool b),.sc (.int .i64 p'.bad),.sc (.int .i64 p'.e)]) ++ ex) := by
  rw [psL_flat h]; exact fin_nd' hk
theorem exp_c {T : List Tk} (hT : T.length ≤ 100000) {pid : Nat} {e pt : PM Nd} (he : HC T pid 45 e) (hpt : HC T pid 127 pt) : HC T pid 45 (expS T e pt) := by
  intro p r p' h K st hp hk
  refine acalls_leK (acalls_go_mod [] Tryz.func45 rfl Tryz.results45 Tryz.ntmps45 ?_)
  have y := cells_facts hp
  unfold psL at y
  unfold expS at h
  rw [Option.bind_eq_some_iff] at h
  obtain ⟨t,h1,h⟩ := h
  by_cases hc : t.kind = 6
  · have c1 : (t.kind == 6) = true := by simp [hc]
    have hg := fun a b => exps_get (st := st ++ [a,b,.map (fnE expsE)]) (id := st.length + 2) (map_facts (by simp)).2 t.text
    by_cases k1 : t.text = [108,101,116]
    · rw [if_pos ⟨hc,k1⟩] at h
      simp only [if_pos k1] at hg
      simp only [go_sem]
      refine look_c h1 (psat_app hp) ?_
      simp only [go_sem,c1]
      refine awp_drawD [] [0] (tbl0 (st ++ [.cells zNd,.cells (tkSV t).cells]) (.map (fnE expsE))) [[[]],[[],[0]],[[],[0]],[[0]],[[0]]] Tryz.mixed rfl rfl rfl rfl rfl ?_
      refine dD_t1 (d := [0]) rfl rfl (.mp (st.length + 2)) rfl ?_ ?_
      · simp only [go_sem,tbl0_n,tbl0_0]
        exact exps_c ⟨by simp,by simp⟩
      refine dD_p2 rfl (.ptr (st.length + 1) 1) (by simp only [go_sem,tbl0_n,tbl0_0]) (by simp only [go_sem,tbl0_n,tbl0_0]) ?_
      refine dD_p2 rfl (.sc (.string (ba t.text))) (by simp only [go_sem,tbl0_n,tbl0_0,cells_tk]) (by simp only [go_sem,tbl0_n,tbl0_0,cells_tk]) ?_
      refine dD_p1 rfl (.func (.func 78) [] []) (by simp only [go_sem,tbl0_n,tbl0_0,hg,Option.isSome_some]) ?_
      refine dD_p1 rfl (.func (.func 78) [] []) (by simp only [go_sem,tbl0_n,tbl0_0]) ?_
      refine dD_end ?_
      simp only [go_sem,tbl0_n,tbl0_0,zNd]
      refine ⟨Tryz.aIsFunc69,?_⟩
      refine let_c hT he _ _ _ h _ _ (psat_app hp) ?_
      simp only [go_sem,inS_get hp]
      exact fin_nd' hk
    · rw [if_neg (fun q => k1 q.2)] at h
      simp only [if_neg k1] at hg
      by_cases k2 : t.text = [102,117,110]
      · rw [if_pos ⟨hc,k2⟩] at h
        simp only [if_pos k2] at hg
        simp only [go_sem]
        refine look_c h1 (psat_app hp) ?_
        simp only [go_sem,c1]
        refine awp_drawD [] [0] (tbl0 (st ++ [.cells zNd,.cells (tkSV t).cells]) (.map (fnE expsE))) [[[]],[[],[0]],[[],[0]],[[0]],[[0]]] Tryz.mixed rfl rfl rfl rfl rfl ?_
        refine dD_t1 (d := [0]) rfl rfl (.mp (st.length + 2)) rfl ?_ ?_
        · simp only [go_sem,tbl0_n,tbl0_0]
          exact exps_c ⟨by simp,by simp⟩
        refine dD_p2 rfl (.ptr (st.length + 1) 1) (by simp only [go_sem,tbl0_n,tbl0_0]) (by simp only [go_sem,tbl0_n,tbl0_0]) ?_
        refine dD_p2 rfl (.sc (.string (ba t.text))) (by simp only [go_sem,tbl0_n,tbl0_0,cells_tk]) (by simp only [go_sem,tbl0_n,tbl0_0,cells_tk]) ?_
        refine dD_p1 rfl (.func (.func 79) [] []) (by simp only [go_sem,tbl0_n,tbl0_0,hg,Option.isSome_some]) ?_
        refine dD_p1 rfl (.func (.func 79) [] []) (by simp only [go_sem,tbl0_n,tbl0_0]) ?_
        refine dD_end ?_
        simp only [go_sem,tbl0_n,tbl0_0,zNd]
        refine ⟨Tryz.aIsFunc69,?_⟩
        refine fun_c hT he _ _ _ h _ _ (psat_app hp) ?_
        simp only [go_sem,inS_get hp]
        exact fin_nd' hk
      · rw [if_neg (fun q => k2 q.2)] at h
        simp only [if_neg k2] at hg
        by_cases k3 : t.text = [105,102]
        · rw [if_pos ⟨hc,k3⟩] at h
          simp only [if_pos k3] at hg
          simp only [go_sem]
          refine look_c h1 (psat_app hp) ?_
          simp only [go_sem,c1]
          refine awp_drawD [] [0] (tbl0 (st ++ [.cells zNd,.cells (tkSV t).cells]) (.map (fnE expsE))) [[[]],[[],[0]],[[],[0]],[[0]],[[0]]] Tryz.mixed rfl rfl rfl rfl rfl ?_
          refine dD_t1 (d := [0]) rfl rfl (.mp (st.length + 2)) rfl ?_ ?_
          · simp only [go_sem,tbl0_n,tbl0_0]
            exact exps_c ⟨by simp,by simp⟩
          refine dD_p2 rfl (.ptr (st.length + 1) 1) (by simp only [go_sem,tbl0_n,tbl0_0]) (by simp only [go_sem,tbl0_n,tbl0_0]) ?_
          refine dD_p2 rfl (.sc (.string (ba t.text))) (by simp only [go_sem,tbl0_n,tbl0_0,cells_tk]) (by simp only [go_sem,tbl0_n,tbl0_0,cells_tk]) ?_
          refine dD_p1 rfl (.func (.func 80) [] []) (by simp only [go_sem,tbl0_n,tbl0_0,hg,Option.isSome_some]) ?_
          refine dD_p1 rfl (.func (.func 80) [] []) (by simp only [go_sem,tbl0_n,tbl0_0]) ?_
          refine dD_end ?_
          simp only [go_sem,tbl0_n,tbl0_0,zNd]
          refine ⟨Tryz.aIsFunc69,?_⟩
          refine branch_c hT he _ _ _ h _ _ (psat_app hp) ?_
          simp only [go_sem,inS_get hp]
          exact fin_nd' hk
        · rw [if_neg (fun q => k3 q.2)] at h
          simp only [if_neg k3] at hg
          simp only [Option.bind_eq_some_iff,Prod.exists] at h
          obtain ⟨n0,p1,h2,b,p2,h3,h⟩ := h
          have y1 := pfacts (psat_set (p' := p1) hp)
          cases hf : p1.flat with
          | true =>
            rw [hf,if_pos rfl] at h3
            cases h3
            simp only [Bool.false_eq_true,if_false,Option.some.injEq,Prod.mk.injEq] at h
            obtain ⟨rfl,rfl⟩ := h
            rw [hf] at y1
            simp only [go_sem]
            refine look_c h1 (psat_app hp) ?_
            simp only [go_sem,c1]
            refine awp_drawD [] [0] (tbl0 (st ++ [.cells zNd,.cells (tkSV t).cells]) (.map (fnE expsE))) [[[]],[[],[0]],[[],[0]],[[0]],[[0]]] Tryz.mixed rfl rfl rfl rfl rfl ?_
            refine dD_t1 (d := [0]) rfl rfl (.mp (st.length + 2)) rfl ?_ ?_
            · simp only [go_sem,tbl0_n,tbl0_0]
              exact exps_c ⟨by simp,by simp⟩
            refine dD_p2 rfl (.ptr (st.length + 1) 1) (by simp only [go_sem,tbl0_n,tbl0_0]) (by simp only [go_sem,tbl0_n,tbl0_0]) ?_
            refine dD_p2 rfl (.sc (.string (ba t.text))) (by simp only [go_sem,tbl0_n,tbl0_0,cells_tk]) (by simp only [go_sem,tbl0_n,tbl0_0,cells_tk]) ?_
            refine dD_p1 rfl (.sc .nilFunc) (by simp only [go_sem,tbl0_n,tbl0_0,hg,Option.isSome_some]) ?_
            refine dD_p1 rfl (.sc .nilFunc) (by simp only [go_sem,tbl0_n,tbl0_0]) ?_
            refine dD_end ?_
            simp only [go_sem,tbl0_n,tbl0_0,zNd]
            refine ⟨Tryz.aIsFunc69,?_⟩
            refine cmp_c hT he hpt _ _ _ h2 _ _ (psat_app hp) ?_
            unfold psL
            simp only [go_sem,inS_get hp,hf,y1.1,y1.2.1,y1.2.2]
            exact fin_ndf hf hk
          | false =>
            rw [hf,if_neg (by decide)] at h3
            rw [hf] at y1
            cases b with
            | false =>
              simp only [Bool.false_eq_true,if_false,Option.some.injEq,Prod.mk.injEq] at h
              obtain ⟨rfl,rfl⟩ := h
              simp only [go_sem]
              refine look_c h1 (psat_app hp) ?_
              simp only [go_sem,c1]
              refine awp_drawD [] [0] (tbl0 (st ++ [.cells zNd,.cells (tkSV t).cells]) (.map (fnE expsE))) [[[]],[[],[0]],[[],[0]],[[0]],[[0]]] Tryz.mixed rfl rfl rfl rfl rfl ?_
              refine dD_t1 (d := [0]) rfl rfl (.mp (st.length + 2)) rfl ?_ ?_
              · simp only [go_sem,tbl0_n,tbl0_0]
                exact exps_c ⟨by simp,by simp⟩
              refine dD_p2 rfl (.ptr (st.length + 1) 1) (by simp only [go_sem,tbl0_n,tbl0_0]) (by simp only [go_sem,tbl0_n,tbl0_0]) ?_
              refine dD_p2 rfl (.sc (.string (ba t.text))) (by simp only [go_sem,tbl0_n,tbl0_0,cells_tk]) (by simp only [go_sem,tbl0_n,tbl0_0,cells_tk]) ?_
              refine dD_p1 rfl (.sc .nilFunc) (by simp only [go_sem,tbl0_n,tbl0_0,hg,Option.isSome_some]) ?_
              refine dD_p1 rfl (.sc .nilFunc) (by simp only [go_sem,tbl0_n,tbl0_0]) ?_
              refine dD_end ?_
              simp only [go_sem,tbl0_n,tbl0_0,zNd]
              refine ⟨Tryz.aIsFunc69,?_⟩
              refine cmp_c hT he hpt _ _ _ h2 _ _ (psat_app hp) ?_
              unfold psL
              simp only [go_sem,inS_get hp,hf,y1.1,y1.2.1,y1.2.2]
              first | (unfold ACallsH; simp only [put_some,put_none',ev_tmp,List.set_cons_succ,List.set_cons_zero,List.getD_cons_succ,List.getD_cons_zero]) | skip
              refine may_c hT h3 (psat_setf hf hp) ?_
              simp only [go_sem,inS_get hp]
              exact fin_nd' hk
            | true =>
              simp only [if_true,Option.map_eq_some_iff,Prod.exists,Prod.mk.injEq] at h
              obtain ⟨x,p3,h4,rfl,rfl⟩ := h
              simp only [go_sem]
              refine look_c h1 (psat_app hp) ?_
              simp only [go_sem,c1]
              refine awp_drawD [] [0] (tbl0 (st ++ [.cells zNd,.cells (tkSV t).cells]) (.map (fnE expsE))) [[[]],[[],[0]],[[],[0]],[[0]],[[0]]] Tryz.mixed rfl rfl rfl rfl rfl ?_
              refine dD_t1 (d := [0]) rfl rfl (.mp (st.length + 2)) rfl ?_ ?_
              · simp only [go_sem,tbl0_n,tbl0_0]
                exact exps_c ⟨by simp,by simp⟩
              refine dD_p2 rfl (.ptr (st.length + 1) 1) (by simp only [go_sem,tbl0_n,tbl0_0]) (by simp only [go_sem,tbl0_n,tbl0_0]) ?_
              refine dD_p2 rfl (.sc (.string (ba t.text))) (by simp only [go_sem,tbl0_n,tbl0_0,cells_tk]) (by simp only [go_sem,tbl0_n,tbl0_0,cells_tk]) ?_
              refine dD_p1 rfl (.sc .nilFunc) (by simp only [go_sem,tbl0_n,tbl0_0,hg,Option.isSome_some]) ?_
              refine dD_p1 rfl (.sc .nilFunc) (by simp only [go_sem,tbl0_n,tbl0_0]) ?_
              refine dD_end ?_
              simp only [go_sem,tbl0_n,tbl0_0,zNd]
              refine ⟨Tryz.aIsFunc69,?_⟩
              refine cmp_c hT he hpt _ _ _ h2 _ _ (psat_app hp) ?_
              unfold psL
              simp only [go_sem,inS_get hp,hf,y1.1,y1.2.1,y1.2.2]
              first | (unfold ACallsH; simp only [put_some,put_none',ev_tmp,List.set_cons_succ,List.set_cons_zero,List.getD_cons_succ,List.getD_cons_zero]) | skip
              refine may_c hT h3 (psat_setf hf hp) ?_
              simp only [go_sem,inS_get hp]
              refine awp_drawW [] [(0,[6]),(0,[6]),(0,[6]),(0,[]),(3,[6]),(0,[]),(3,[7]),(1,[8])] Tryz.mixed rfl ?_
              simp only [go_sem,drawW_n,drawW_0,drawW_1,drawW_2,drawW_3,pend_n,pend_c,headD_c,isStore_s,nd_drop3]
              refine ⟨_,_,in_c he rfl h4 (psat_seta hp) ⟨rfl,rfl⟩,?_⟩
              simp only [go_sem,drawW_n,drawW_0,drawW_1,drawW_2,drawW_3,pend_n,pend_c,headD_c,isStore_s,inS_get hp,nd_drop3]
              rw [dk_eff]
              refine ⟨.slice .full 6 [ndSV n0,ndSV x],?_,?_⟩
              · simp only [go_sem]
                exact ⟨⟨[],by simp⟩,ids_nds _ _ (.inr rfl) _ [_,_],.inl rfl⟩
              refine ⟨_,_,nodeN_c (kids := [n0,x]) (.inl rfl) ⟨rfl,rfl⟩,?_⟩
              simp only [go_sem,drawW_n,drawW_0,drawW_1,drawW_2,drawW_3,pend_n,pend_c,headD_c,isStore_s,inS_get hp]
              exact fin_nd' hk
  · have c1 : (t.kind == 6) = false := by simp [hc]
    rw [if_neg (fun q => hc q.1),if_neg (fun q => hc q.1),if_neg (fun q => hc q.1)] at h
    simp only [Option.bind_eq_some_iff,Prod.exists] at h
    obtain ⟨n0,p1,h2,b,p2,h3,h⟩ := h
    have y1 := pfacts (psat_set (p' := p1) hp)
    cases hf : p1.flat with
    | true =>
      rw [hf,if_pos rfl] at h3
      cases h3
      simp only [Bool.false_eq_true,if_false,Option.some.injEq,Prod.mk.injEq] at h
      obtain ⟨rfl,rfl⟩ := h
      rw [hf] at y1
      simp only [go_sem]
      refine look_c h1 (psat_app hp) ?_
      simp only [go_sem,c1]
      refine cmp_c hT he hpt _ _ _ h2 _ _ (psat_app hp) ?_
      unfold psL
      simp only [go_sem,inS_get hp,hf,y1.1,y1.2.1,y1.2.2]
      exact fin_ndf hf hk
    | false =>
      rw [hf,if_neg (by decide)] at h3
      rw [hf] at y1
      cases b with
      | false =>
        simp only [Bool.false_eq_true,if_false,Option.some.injEq,Prod.mk.injEq] at h
        obtain ⟨rfl,rfl⟩ := h
        simp only [go_sem]
        refine look_c h1 (psat_app hp) ?_
        simp only [go_sem,c1]
        refine cmp_c hT he hpt _ _ _ h2 _ _ (psat_app hp) ?_
        unfold psL
        simp only [go_sem,inS_get hp,hf,y1.1,y1.2.1,y1.2.2]
        first | (unfold ACallsH; simp only [put_some,put_none',ev_tmp,List.set_cons_succ,List.set_cons_zero,List.getD_cons_succ,List.getD_cons_zero]) | skip
        refine may_c hT h3 (psat_setf hf hp) ?_
        simp only [go_sem,inS_get hp]
        exact fin_nd' hk
      | true =>
        simp only [if_true,Option.map_eq_some_iff,Prod.exists,Prod.mk.injEq] at h
        obtain ⟨x,p3,h4,rfl,rfl⟩ := h
        simp only [go_sem]
        refine look_c h1 (psat_app hp) ?_
        simp only [go_sem,c1]
        refine cmp_c hT he hpt _ _ _ h2 _ _ (psat_app hp) ?_
        unfold psL
        simp only [go_sem,inS_get hp,hf,y1.1,y1.2.1,y1.2.2]
        first | (unfold ACallsH; simp only [put_some,put_none',ev_tmp,List.set_cons_succ,List.set_cons_zero,List.getD_cons_succ,List.getD_cons_zero]) | skip
        refine may_c hT h3 (psat_setf hf hp) ?_
        simp only [go_sem,inS_get hp]
        refine awp_drawW [] [(0,[6]),(0,[6]),(0,[6]),(0,[]),(3,[6]),(0,[]),(3,[7]),(1,[8])] Tryz.mixed rfl ?_
        simp only [go_sem,drawW_n,drawW_0,drawW_1,drawW_2,drawW_3,pend_n,pend_c,headD_c,isStore_s,nd_drop3]
        refine ⟨_,_,in_c he rfl h4 (psat_seta hp) ⟨rfl,rfl⟩,?_⟩
        simp only [go_sem,drawW_n,drawW_0,drawW_1,drawW_2,drawW_3,pend_n,pend_c,headD_c,isStore_s,inS_get hp,nd_drop3]
        rw [dk_eff]
        refine ⟨.slice .full 6 [ndSV n0,ndSV x],?_,?_⟩
        · simp only [go_sem]
          exact ⟨⟨[],by simp⟩,ids_nds _ _ (.inr rfl) _ [_,_],.inl rfl⟩
        refine ⟨_,_,nodeN_c (kids := [n0,x]) (.inl rfl) ⟨rfl,rfl⟩,?_⟩
        simp only [go_sem,drawW_n,drawW_0,drawW_1,drawW_2,drawW_3,pend_n,pend_c,headD_c,isStore_s,inS_get hp]
        exact fin_nd' hk
end Go.Proofs
