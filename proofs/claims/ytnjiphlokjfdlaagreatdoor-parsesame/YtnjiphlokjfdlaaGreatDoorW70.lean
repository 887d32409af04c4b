import Derived.Test.YtnjiphlokjfdlaaGreatDoorW69
set_option maxHeartbeats 4000000
set_option linter.unusedSimpArgs false
set_option linter.unusedVariables false
set_option maxRecDepth 8000
namespace Go.AL
def PrQ (T : List Tk) (st : St) (p1 : PS) (n1 : Nd) (e : Exit) (env : List SV) (s : St) : Prop := e = .exit 0 ∧ (∃ y0 y3 y4 y5 y6 y7 y10 y11 y12 y13 y14 y15 y16 y17 y18 y19 y20 y21 y22 y23 y24 y25 y26 y27 y28 y29 y30 y31 y32 y33 y34 y35 y36 y37 y38 y39 y40 y41 y42 y43 y44 y45 y46 y47 y48 y49 y50 y51,env = [y0,.any,.ptr st.length 0,y3,y4,y5,y6,y7,.ptr (st.length + 1) 0,.ptr (st.length + 2) 0,y10,y11,y12,y13,y14,y15,y16,y17,y18,y19,y20,y21,y22,y23,y24,y25,y26,y27,y28,y29,y30,y31,y32,y33,y34,y35,y36,y37,y38,y39,y40,y41,y42,y43,y44,y45,y46,y47,y48,y49,y50,y51,.any,.any,.any,.any,.any,.any,.any,.any,.any,.any,.any,.any,.any,.any,.any,.any,.any,.any,.any,.any,.any,.any,.any,.any,.any,.any,.any,.any,.any]) ∧ ∃ (k : Nat) (ex : St),(n1.names = [] ∧ n1.kids.length ≤ T.length + 2) ∧ s = st ++ (.cells zNd :: .cells (dpL T p1) :: .cells (ndOwn (st.length + 3) k n1) :: .tok k :: ex)
variable {T : List Tk} {st : St} {q : PS}
theorem dat_p {a : Ob} {ex : St} : DAt T (st.length + 1) q (st ++ (a :: .cells (dpL T q) :: ex)) := by unfold DAt; simp
theorem get_s {st ex : St} (k : Nat) : (st ++ ex)[st.length + k]? = ex[k]? := by rw [List.getElem?_append_right (by simp)]; simp
theorem set_s {st ex : St} {Y : Ob} (k : Nat) : (st ++ ex).set (st.length + k) Y = st ++ ex.set k Y := by rw [List.set_append_right _ _ (by simp)]; simp
theorem setp {a X : Ob} {ex : St} {Y : Ob} : (st ++ (a :: X :: ex)).set (st.length + 1) Y = st ++ (a :: Y :: ex) := set_s 1
theorem le_own {kid ver : Nat} {nd : Nd} (h : nd.names = []) : SVle (.agg (ndOwn kid ver nd)) (ndSV nd) := fun s σ w v hr => by
  have := le_raw (m1 := .full) (m2 := .own kid ver) (z1 := 0) (z2 := 6) (n := nd) (.inr h) (.inl rfl) s σ w v (by
    have h2 := hr.norm
    unfold ndRaw
    rw [h]
    exact h2)
  exact this
theorem tupLe {l r : List SV} (h : SVles l r) : SVle (.tuple l) (.tuple r) := by
  intro st σ w v hv
  generalize hx : SV.tuple l = x at hv
  cases hv with
  | tuple l' vs h1 h2 =>
    cases hx
    exact .tuple r vs (h1.trans h.len) fun i hi => h.at i _ _ _ _ (h2 i (by rw [h.len]; exact hi))
  | _ => cases hx
theorem find_prog {ex : St} {K : SV → St → Prop} {x : SV} {nd : Nd} {a e : Value} (hle : SVle x (ndSV nd)) (hk : K (.tuple [ndSV nd,.sc a,.sc e]) st) : LeK (FinK st K) (.tuple [x,.sc a,.sc e]) (st ++ ex) := by
  refine ⟨.tuple [ndSV nd,.sc a,.sc e],tupLe (.cons hle (.cons (SVle.refl _) (.cons (SVle.refl _) .nil))),⟨ex,rfl⟩,?_,?_⟩
  · simp only [norm_tuple,List.map_cons,List.map_nil,norm1_nd]
    refine .tuple _ ?_
    intro i hi
    match i with
    | 0 => exact ids_nd _ _
    | 1 => exact .sc _
    | 2 => exact .sc _
    | i + 3 => simp at hi; omega
  · simp only [norm_tuple,List.map_cons,List.map_nil,norm1_nd]
    exact hk
theorem acalls_fink {P : Program} {f : FuncId} {args : List SV} {K : SV → St → Prop} (h : ACalls P f args (FinK st K) st) : ACalls P f args K st := acalls_pure (h.mono fun x s ⟨⟨ex,e⟩,h1,h2⟩ => ⟨ex,e,h1,h2⟩)
theorem le_z : SVle (.agg zNd) (ndSV nd0) := fun s σ w v hr => le_raw (m1 := .full) (m2 := .full) (z1 := 0) (z2 := 0) (n := nd0) (.inr rfl) (.inr rfl) s σ w v hr.norm
theorem ids_z6 (n : Nat) : Ids n (.agg zNd) := by
  rw [ids_agg]
  intro x hx
  simp only [zNd,List.mem_cons,List.not_mem_nil,or_false] at hx
  rcases hx with rfl | rfl | rfl | rfl | rfl | rfl
  · exact .sc _
  · exact .sc _
  · exact .sc _
  · exact .sc _
  · exact ids_slice (.inr rfl) fun x hx => by cases hx
  · exact ids_slice (.inr rfl) fun x hx => by cases hx
end Go.AL
namespace Go.Proofs
open Go Go.AL
theorem dTy_c {T : List Tk} (hT : T.length ≤ 100000) {pid : Nat} : ∀ n,DC T pid 35 (deepR T (tyI T n)) := by
  intro n
  induction n with
  | zero => exact dty_c hT fun p r q h => by cases h
  | succ n ih => exact dty_c hT fun p r q h => ⟨_,ih,h⟩
theorem dPat_c {T : List Tk} (hT : T.length ≤ 100000) {pid : Nat} : ∀ n,DC T pid 114 (deepR T (patI T n)) := by
  intro n
  induction n with
  | zero => exact dpat_c hT fun p r q h => by cases h
  | succ n ih => exact dpat_c hT fun p r q h => ⟨_,ih,h⟩
theorem dExp_c {T : List Tk} (hT : T.length ≤ 100000) {pid : Nat} : ∀ n,DC T pid 15 (deepR T (expI T n)) := by
  intro n
  induction n with
  | zero => exact dexp_c fun p r q h => by cases h
  | succ n ih => exact dexp_c (dinner_c hT ih (dcmp_c hT (dsum_c hT (dprod_c hT (dapp_c hT (datom_c hT (dwhole_c ih) (dPat_c hT (n + 1))) (datomE_c hT))))))
theorem dprogE_c {s : Tx} {K : SV → St → Prop} {st : St} {a : Nat} {e : Int} (he : e ≠ 0) (htok : ∀ (K : SV → St → Prop) (st : St),(∀ x,K (.tuple [x,.sc (.int .i64 a),.sc (.int .i64 e)]) st) → ACalls Tryz.prog 9 [.sc (.string (ba s))] K st) (hk : K (.tuple [ndSV nd0,.sc (.int .i64 a),.sc (.int .i64 e)]) st) : ACalls Tryz.prog 4 [.sc (.string (ba s))] K st := by
  refine acalls_fink (acalls_leK (acalls_go (M := [25]) Tryz.func4 rfl Tryz.results4 Tryz.ntmps4 ?_))
  have c1 : (e != 0) = true := by simp [he]
  simp only [go_sem]
  refine htok _ _ fun x => ?_
  simp only [go_sem,c1]
  exact find_prog le_z hk
theorem dprogO_c {s : Tx} {K : SV → St → Prop} {st : St} {T : List Tk} (hT : T.length ≤ 100000) (htok : ∀ (K : SV → St → Prop) (st : St),K (.tuple [.slice .imm 4 (T.map tkSV),.sc (.int .i64 0),.sc (.int .i64 0)]) st → ACalls Tryz.prog 9 [.sc (.string (ba s))] K st) {nd : Nd} {q : PS} {e ty : PM Nd} (he : DC T (st.length + 1) 15 e) (hy : DC T (st.length + 1) 35 ty)
    (h : progR T e ty ⟨0,0,false,0,0⟩ = some (nd,q)) (hk : K (.tuple [ndSV (if q.e = 0 then nd else nd0),.sc (.int .i64 (if q.e = 0 then 0 else q.bad)),.sc (.int .i64 q.e)]) st) : ACalls Tryz.prog 4 [.sc (.string (ba s))] K st := by
  refine acalls_fink (acalls_leK (acalls_go (M := [25]) Tryz.func4 rfl Tryz.results4 Tryz.ntmps4 ?_))
  have hdc := ddecl_c hT he (dcon_c hT hy)
  have d00 : ((0 : Int) != 0) = false := rfl
  unfold progR at h
  simp only [Option.bind_eq_some_iff,Option.map_eq_some_iff,Prod.exists,Prod.mk.injEq] at h
  obtain ⟨a0,ha,n1,p1,hL,p2,h3,u,p3,h4,t',h5,p4,h6,rfl,rfl⟩ := h
  simp only [go_sem]
  refine htok _ _ ?_
  simp only [go_sem,d00]
  refine dat_c (T := T) (p := ⟨0,0,false,0,0⟩) ha (dat_p (ex := [])) ?_
  simp only [go_sem]
  refine awp_ownC (st.length + 2) 5 6 0 (get_s 2) (by simp) rfl ?_
  rw [set_s]
  simp only [List.length_append,List.length_cons,List.length_nil,List.set_cons_succ,List.set_cons_zero,List.append_assoc,List.cons_append,List.nil_append,Nat.zero_add,Nat.reduceAdd]
  refine AWp.mono (Q := PrQ T st p1 n1) ?_ ?_
  · refine awp_rounds [] (fun m env s => ∃ (nd : Nd) (q : PS) (k : Nat) (ex : St),progRL T e ty m nd q = some (n1,p1) ∧ m + nd.kids.length ≤ T.length + 2 ∧ nd.names = [] ∧ env = [.any,.any,.ptr st.length 0,.any,.any,.any,.any,.any,.ptr (st.length + 1) 0,.ptr (st.length + 2) 0,.any,.any,.any,.any,.any,.any,.any,.any,.any,.any,.any,.any,.any,.any,.any,.any,.any,.any,.any,.any,.any,.any,.any,.any,.any,.any,.any,.any,.any,.any,.any,.any,.any,.any,.any,.any,.any,.any,.any,.any,.any,.any,.any,.any,.any,.any,.any,.any,.any,.any,.any,.any,.any,.any,.any,.any,.any,.any,.any,.any,.any,.any,.any,.any,.any,.any,.any,.any,.any,.any,.any] ∧ s = st ++ (.cells zNd :: .cells (dpL T q) :: .cells (ndOwn (st.length + 3) k nd) :: .tok k :: ex)) (n := T.length + 2) ?_ ⟨_,_,0,[],hL,by simp [nodeF,Nd.kids],rfl,rfl,rfl⟩ ?_
    · repeat (first | exact leEnv_nil | refine leEnv_any _ ?_ | refine leEnv_same _ ?_ | refine leEnv_norm _ ?_)
    rintro m env s ⟨nd,q,k,ex,hl,hm,hnm,rfl,rfl⟩
    cases m with
    | zero => cases hl
    | succ m =>
    unfold progRL at hl
    rw [Option.bind_eq_some_iff] at hl
    obtain ⟨t,ht,hl⟩ := hl
    cases b1 : isT t [116,121,112,101] with
    | false =>
      cases b2 : isT t [108,101,116] with
      | false =>
        rw [if_neg (by rw [b1,b2]; decide)] at hl
        cases hl
        simp only [go_sem]
        refine dis_t ht b1 dat_p ?_
        simp only [go_sem]
        refine dis_t ht b2 dat_p ?_
        simp only [go_sem]
        exact ⟨rfl,⟨_,_,_,_,_,_,_,_,_,_,_,_,_,_,_,_,_,_,_,_,_,_,_,_,_,_,_,_,_,_,_,_,_,_,_,_,_,_,_,_,_,_,_,_,_,_,_,_,rfl⟩,_,_,⟨hnm,by omega⟩,rfl⟩
      | true =>
        rw [if_pos (.inr b2)] at hl
        by_cases l6 : nd.kids.length = 60
        · have l1 : ((nd.kids.length : Int) == 60) = true := by simp [l6]
          rw [if_pos l6,Option.map_eq_some_iff] at hl
          obtain ⟨q1,c5,hl⟩ := hl
          cases hl
          simp only [go_sem]
          refine dis_t ht b1 dat_p ?_
          simp only [go_sem]
          refine dis_t ht b2 dat_p ?_
          unfold ndOwn
          simp only [go_sem,List.length_map,l1]
          refine dfail_c c5 dat_p fun _ => ?_
          simp only [setp]
          simp only [go_sem]
          exact ⟨rfl,⟨_,_,_,_,_,_,_,_,_,_,_,_,_,_,_,_,_,_,_,_,_,_,_,_,_,_,_,_,_,_,_,_,_,_,_,_,_,_,_,_,_,_,_,_,_,_,_,_,rfl⟩,_,_,⟨hnm,by omega⟩,rfl⟩
        · have l1 : ((nd.kids.length : Int) == 60) = false := by simp; omega
          rw [if_neg l6,Option.bind_eq_some_iff] at hl
          obtain ⟨⟨x,q1⟩,c5,hl⟩ := hl
          simp only [go_sem]
          refine dis_t ht b1 dat_p ?_
          simp only [go_sem]
          refine dis_t ht b2 dat_p ?_
          unfold ndOwn
          simp only [go_sem,List.length_map,l1]
          refine awp_drawW [] [(0,[5]),(0,[5]),(0,[]),(3,[5]),(0,[]),(3,[7]),(0,[]),(1,[8])] Tryz.mixed rfl ?_
          simp only [go_sem,drawW_n,drawW_0,drawW_1,drawW_2,drawW_3,pend_n,pend_c,headD_c,isStore_s]
          refine ⟨_,_,hdc _ _ _ c5 _ _ dat_p ⟨rfl,rfl⟩,?_⟩
          simp only [go_sem,drawW_n,drawW_0,drawW_1,drawW_2,drawW_3,pend_n,pend_c,headD_c,isStore_s,setp]
          rw [dk_eff]
          refine ⟨.slice .full 6 [ndSV x],?_,?_⟩
          · simp only [go_sem]
            exact ⟨⟨[],by simp⟩,ids_nds _ _ (.inr rfl) _ [_],.inl rfl⟩
          simp only [go_sem,drawW_n,drawW_0,drawW_1,drawW_2,drawW_3,pend_n,pend_c,headD_c,isStore_s]
          refine ⟨_,_,⟨Tryz.app6 (by omega),rfl,rfl⟩,?_⟩
          simp only [go_sem]
          refine ⟨m,_,by omega,?_,nd.addKid x,q1,k + 1,_,hl,by rw [ak_kids]; simp; omega,by rw [ak_names]; exact hnm,rfl,by rw [ak_kind,ak_text,ak_num,ak_pos,ak_kids,List.map_append]; rfl⟩
          repeat (first | exact leEnv_nil | refine leEnv_any _ ?_ | refine leEnv_same _ ?_ | refine leEnv_norm _ ?_)
    | true =>
      rw [if_pos (.inl b1)] at hl
      have b2 : isT t [108,101,116] = false := by
        cases hb : isT t [108,101,116] with
        | false => rfl
        | true => exact absurd ((isT_iff.1 b1).2.symm.trans (isT_iff.1 hb).2) (by decide)
      by_cases l6 : nd.kids.length = 60
      · have l1 : ((nd.kids.length : Int) == 60) = true := by simp [l6]
        rw [if_pos l6,Option.map_eq_some_iff] at hl
        obtain ⟨q1,c5,hl⟩ := hl
        cases hl
        simp only [go_sem]
        refine dis_t ht b1 dat_p ?_
        simp only [go_sem]
        refine dis_t ht b2 dat_p ?_
        unfold ndOwn
        simp only [go_sem,List.length_map,l1]
        refine dfail_c c5 dat_p fun _ => ?_
        simp only [setp]
        simp only [go_sem]
        exact ⟨rfl,⟨_,_,_,_,_,_,_,_,_,_,_,_,_,_,_,_,_,_,_,_,_,_,_,_,_,_,_,_,_,_,_,_,_,_,_,_,_,_,_,_,_,_,_,_,_,_,_,_,rfl⟩,_,_,⟨hnm,by omega⟩,rfl⟩
      · have l1 : ((nd.kids.length : Int) == 60) = false := by simp; omega
        rw [if_neg l6,Option.bind_eq_some_iff] at hl
        obtain ⟨⟨x,q1⟩,c5,hl⟩ := hl
        simp only [go_sem]
        refine dis_t ht b1 dat_p ?_
        simp only [go_sem]
        refine dis_t ht b2 dat_p ?_
        unfold ndOwn
        simp only [go_sem,List.length_map,l1]
        refine awp_drawW [] [(0,[5]),(0,[5]),(0,[]),(3,[5]),(0,[]),(3,[7]),(0,[]),(1,[8])] Tryz.mixed rfl ?_
        simp only [go_sem,drawW_n,drawW_0,drawW_1,drawW_2,drawW_3,pend_n,pend_c,headD_c,isStore_s]
        refine ⟨_,_,hdc _ _ _ c5 _ _ dat_p ⟨rfl,rfl⟩,?_⟩
        simp only [go_sem,drawW_n,drawW_0,drawW_1,drawW_2,drawW_3,pend_n,pend_c,headD_c,isStore_s,setp]
        rw [dk_eff]
        refine ⟨.slice .full 6 [ndSV x],?_,?_⟩
        · simp only [go_sem]
          exact ⟨⟨[],by simp⟩,ids_nds _ _ (.inr rfl) _ [_],.inl rfl⟩
        simp only [go_sem,drawW_n,drawW_0,drawW_1,drawW_2,drawW_3,pend_n,pend_c,headD_c,isStore_s]
        refine ⟨_,_,⟨Tryz.app6 (by omega),rfl,rfl⟩,?_⟩
        simp only [go_sem]
        refine ⟨m,_,by omega,?_,nd.addKid x,q1,k + 1,_,hl,by rw [ak_kids]; simp; omega,by rw [ak_names]; exact hnm,rfl,by rw [ak_kind,ak_text,ak_num,ak_pos,ak_kids,List.map_append]; rfl⟩
        repeat (first | exact leEnv_nil | refine leEnv_any _ ?_ | refine leEnv_same _ ?_ | refine leEnv_norm _ ?_)
  have yq := fun ex : St => cells_facts (dat_p (T := T) (st := st) (q := p4) (a := .cells zNd) (ex := ex))
  have hps : dpL T p4 = [.slice .imm 4 (T.map tkSV),.sc (.int .i64 p4.pos),.sc (.int .i64 p4.deep),.sc (.int .i64 p4.bad),.sc (.bool p4.flat),.sc (.int .i64 p4.e)] := rfl
  have hown : ∀ k,(ndOwn (st.length + 3) k (n1.addKid u)) = [.sc (.int .i64 n1.kind),.sc (.string (ba n1.text)),.sc (.int .i64 n1.num),.sc (.int .i64 n1.pos),.slice .full 0 [],.slice (.own (st.length + 3) k) 6 (n1.kids.map ndSV ++ [ndSV u])] := fun k => own_add _ _ _ _
  by_cases k0 : t'.kind = 0
  · have c0 : (t'.kind != 0) = false := by simp [k0]
    rw [if_neg (by simp [k0])] at h6
    cases h6
    by_cases e0 : p3.e = 0
    · have c1 : (p3.e != 0) = false := by simp [e0]
      simp only [e0,if_true] at hk
      rintro e' env s ⟨rfl,⟨y0,y3,y4,y5,y6,y7,y10,y11,y12,y13,y14,y15,y16,y17,y18,y19,y20,y21,y22,y23,y24,y25,y26,y27,y28,y29,y30,y31,y32,y33,y34,y35,y36,y37,y38,y39,y40,y41,y42,y43,y44,y45,y46,y47,y48,y49,y50,y51,rfl⟩,k,ex,⟨hnm,hkl⟩,rfl⟩
      simp only [go_sem]
      refine dwant_c hT h3 dat_p fun _ => ?_
      simp only [setp]
      unfold ndOwn
      simp only [go_sem]
      refine awp_drawW [] [(0,[5]),(0,[5]),(0,[]),(3,[5]),(0,[]),(3,[7]),(0,[]),(1,[8])] Tryz.mixed rfl ?_
      simp only [go_sem,drawW_n,drawW_0,drawW_1,drawW_2,drawW_3,pend_n,pend_c,headD_c,isStore_s]
      refine ⟨_,_,he _ _ _ h4 _ _ dat_p ⟨rfl,rfl⟩,?_⟩
      simp only [go_sem,drawW_n,drawW_0,drawW_1,drawW_2,drawW_3,pend_n,pend_c,headD_c,isStore_s,setp]
      rw [dk_eff]
      refine ⟨.slice .full 6 [ndSV u],?_,?_⟩
      · simp only [go_sem]
        exact ⟨⟨[],by simp⟩,ids_nds _ _ (.inr rfl) _ [_],.inl rfl⟩
      simp only [go_sem,drawW_n,drawW_0,drawW_1,drawW_2,drawW_3,pend_n,pend_c,headD_c,isStore_s]
      refine ⟨_,_,⟨Tryz.app6 (by omega),rfl,rfl⟩,?_⟩
      simp only [go_sem,setp]
      refine dkind_c h5 dat_p ?_
      rw [hps]
      simp only [go_sem,c0,c1]
      refine ⟨by decide,find_prog (nd := n1.addKid u) ?_ hk⟩
      have := le_own (kid := st.length + 3) (ver := k + 1) (nd := n1.addKid u) (by rw [ak_names]; exact hnm)
      rw [hown] at this
      exact this
    · have c1 : (p3.e != 0) = true := by simp [e0]
      simp only [e0,if_false] at hk
      rintro e' env s ⟨rfl,⟨y0,y3,y4,y5,y6,y7,y10,y11,y12,y13,y14,y15,y16,y17,y18,y19,y20,y21,y22,y23,y24,y25,y26,y27,y28,y29,y30,y31,y32,y33,y34,y35,y36,y37,y38,y39,y40,y41,y42,y43,y44,y45,y46,y47,y48,y49,y50,y51,rfl⟩,k,ex,⟨hnm,hkl⟩,rfl⟩
      simp only [go_sem]
      refine dwant_c hT h3 dat_p fun _ => ?_
      simp only [setp]
      unfold ndOwn
      simp only [go_sem]
      refine awp_drawW [] [(0,[5]),(0,[5]),(0,[]),(3,[5]),(0,[]),(3,[7]),(0,[]),(1,[8])] Tryz.mixed rfl ?_
      simp only [go_sem,drawW_n,drawW_0,drawW_1,drawW_2,drawW_3,pend_n,pend_c,headD_c,isStore_s]
      refine ⟨_,_,he _ _ _ h4 _ _ dat_p ⟨rfl,rfl⟩,?_⟩
      simp only [go_sem,drawW_n,drawW_0,drawW_1,drawW_2,drawW_3,pend_n,pend_c,headD_c,isStore_s,setp]
      rw [dk_eff]
      refine ⟨.slice .full 6 [ndSV u],?_,?_⟩
      · simp only [go_sem]
        exact ⟨⟨[],by simp⟩,ids_nds _ _ (.inr rfl) _ [_],.inl rfl⟩
      simp only [go_sem,drawW_n,drawW_0,drawW_1,drawW_2,drawW_3,pend_n,pend_c,headD_c,isStore_s]
      refine ⟨_,_,⟨Tryz.app6 (by omega),rfl,rfl⟩,?_⟩
      simp only [go_sem,setp]
      refine dkind_c h5 dat_p ?_
      rw [hps]
      simp only [go_sem,c0,c1]
      refine awp_drawW [] [(0,[]),(0,[12]),(0,[12]),(0,[12]),(0,[12]),(0,[12]),(0,[12]),(0,[12]),(0,[12]),(1,[12]),(0,[]),(0,[])] Tryz.mixed rfl ?_
      simp only [go_sem,drawW_n,drawW_0,drawW_1,drawW_2,drawW_3,pend_n,pend_c,headD_c,isStore_s,zNd]
      rw [dk_eff]
      refine ⟨.agg zNd,?_,?_⟩
      · simp only [go_sem]
        exact ⟨⟨[],by simp⟩,ids_z6 _,.inl rfl⟩
      simp only [go_sem,drawW_n,drawW_0,drawW_1,drawW_2,drawW_3,pend_n,pend_c,headD_c,isStore_s,zNd]
      exact find_prog le_z hk
  · have c0 : (t'.kind != 0) = true := by simp [k0]
    rw [if_pos k0] at h6
    have e0 : p4.e ≠ 0 := fail_ne h6 (by decide)
    have c1 : (p4.e != 0) = true := by simp [e0]
    simp only [e0,if_false] at hk
    rintro e' env s ⟨rfl,⟨y0,y3,y4,y5,y6,y7,y10,y11,y12,y13,y14,y15,y16,y17,y18,y19,y20,y21,y22,y23,y24,y25,y26,y27,y28,y29,y30,y31,y32,y33,y34,y35,y36,y37,y38,y39,y40,y41,y42,y43,y44,y45,y46,y47,y48,y49,y50,y51,rfl⟩,k,ex,⟨hnm,hkl⟩,rfl⟩
    simp only [go_sem]
    refine dwant_c hT h3 dat_p fun _ => ?_
    simp only [setp]
    unfold ndOwn
    simp only [go_sem]
    refine awp_drawW [] [(0,[5]),(0,[5]),(0,[]),(3,[5]),(0,[]),(3,[7]),(0,[]),(1,[8])] Tryz.mixed rfl ?_
    simp only [go_sem,drawW_n,drawW_0,drawW_1,drawW_2,drawW_3,pend_n,pend_c,headD_c,isStore_s]
    refine ⟨_,_,he _ _ _ h4 _ _ dat_p ⟨rfl,rfl⟩,?_⟩
    simp only [go_sem,drawW_n,drawW_0,drawW_1,drawW_2,drawW_3,pend_n,pend_c,headD_c,isStore_s,setp]
    rw [dk_eff]
    refine ⟨.slice .full 6 [ndSV u],?_,?_⟩
    · simp only [go_sem]
      exact ⟨⟨[],by simp⟩,ids_nds _ _ (.inr rfl) _ [_],.inl rfl⟩
    simp only [go_sem,drawW_n,drawW_0,drawW_1,drawW_2,drawW_3,pend_n,pend_c,headD_c,isStore_s]
    refine ⟨_,_,⟨Tryz.app6 (by omega),rfl,rfl⟩,?_⟩
    simp only [go_sem,setp]
    refine dkind_c h5 dat_p ?_
    simp only [go_sem,c0]
    refine dfail_c h6 dat_p fun _ => ?_
    simp only [setp]
    rw [hps]
    simp only [go_sem,c1]
    refine awp_drawW [] [(0,[]),(0,[12]),(0,[12]),(0,[12]),(0,[12]),(0,[12]),(0,[12]),(0,[12]),(0,[12]),(1,[12]),(0,[]),(0,[])] Tryz.mixed rfl ?_
    simp only [go_sem,drawW_n,drawW_0,drawW_1,drawW_2,drawW_3,pend_n,pend_c,headD_c,isStore_s,zNd]
    rw [dk_eff]
    refine ⟨.agg zNd,?_,?_⟩
    · simp only [go_sem]
      exact ⟨⟨[],by simp⟩,ids_z6 _,.inl rfl⟩
    simp only [go_sem,drawW_n,drawW_0,drawW_1,drawW_2,drawW_3,pend_n,pend_c,headD_c,isStore_s,zNd]
    exact find_prog le_z hk
end Go.Proofs
