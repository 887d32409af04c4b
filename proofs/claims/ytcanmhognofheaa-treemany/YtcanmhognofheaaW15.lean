/- together. -/
import Derived.Test.YtcanmhognofheaaM5
import Derived.Test.YtcanmhognofheaaA9
set_option linter.all false
set_option maxHeartbeats 4000000
set_option linter.unusedSimpArgs false
set_option maxRecDepth 8000
namespace Go.Proofs
open Go Go.AL
theorem cells_kind (n : Nd) : cellsOf Try.prog 3 (nodeSV n).cells = some (.sc (.int .i64 n.kind)) := by
  rw [cells_node]; simp [cellsOf,Try.aagg3]
def pSame (d : Nd) : SV → Bool
  | .agg [.sc (.int _ k),.sc (.string t),.sc (.int _ n),_,_,_] => sameB (.mk k t n 0 [] []) d
  | _ => false
theorem pSame_node (d n : Nd) : pSame d (nodeSV n) = sameB n d := by rw [nodeSV_eq]; rfl
theorem any_same (d : Nd) (l : List Nd) : (l.map nodeSV).any (pSame d) = l.any fun x => sameB x d := by
  rw [List.any_map]; congr 1; funext x; exact pSame_node d x
theorem contSame_c (m : AL.Mode) (l : List Nd) (d : Nd) (id : Nat) (hl : l.length ≤ 100000) (st : St) (hi : isObj st id) (ho : objAt st id = (nodeSV d).cells) (K : SV → St → Prop)
    (h : K (.sc (.bool (l.any fun x => sameB x d))) st) : ACalls Try.prog 41 [.slice m 6 (l.map nodeSV),.func (.func 42) [] [.ptr id 0]] K st := by
  rw [← any_same] at h
  refine contains26_c _ _ (pSame d) 42 _ Try.abody42 (fun x hx => ?_) (by simp only [List.length_map]; omega) _ (fun x hx K h => ?_) _ h
  · obtain ⟨n,_,rfl⟩ := List.mem_map.1 hx
    exact cellsOf_node n Try.aagg27 Try.asize27
  · obtain ⟨n,_,rfl⟩ := List.mem_map.1 hx
    rw [pSame_node] at h
    exact together1_c n d _ K _ hi ho h
def conOf (cons : List Cn) (p : Nd) : Cn := (findC cons p.text).getD default
def odd (cons : List Cn) (first p : Nd) : Bool := p.kind != first.kind || !((conOf cons p).of_.toList == (conOf cons first).of_.toList)
def togF (cons : List Cn) : Nat → List (List Nd) → Bool
  | 0,_ => false
  | b + 1,rows =>
    if rows = [] ∨ rows.getD 0 default = [] then true
    else if columnL rows = [] then togF cons b (othersL rows)
    else if (columnL rows).any (odd cons ((columnL rows).getD 0 default)) then false
    else if (List.range (columnL rows).length).any (fun i => !(((columnL rows).take i).any fun o => sameB o ((columnL rows).getD i default)) && !togF cons b (underL rows ((columnL rows).getD i default))) then false
    else togF cons b (othersL rows)
theorem tog_c (cons : List Cn) (hlow : Low cons) : ∀ (b : Nat),b ≤ 100000 → ∀ (W : Nat) (rows : List (List Nd)),Good cons W rows → 6 * nlR rows + W < b → ∀ (K : SV → St → Prop) (st : St),K (.sc (.bool (togF cons b rows))) st → ACalls Try.prog 18 [consSV cons,rowsSV rows] K st := by
  intro b
  induction b with
  | zero => intro _ W rows _ h; exact absurd h (Nat.not_lt_zero _)
  | succ b ih0 =>
    intro hbb W rows hg hm K st h
    have ih := ih0 (by omega)
    refine acalls_go_pure [] Try.func18 rfl Try.results18 Try.ntmps18 ?_
    by_cases h0 : rows = []
    · have e : togF cons (b + 1) rows = true := by rw [togF,if_pos (.inl h0)]
      rw [e] at h
      have n0 : ((rows.length : Int) == 0) = true := by rw [h0]; rfl
      simp only [go_sem,imp_self,implies_true,reduceCtorEq,false_imp_iff,true_imp_iff,decide_true,decide_false,Int.toNat_natCast,Int.toNat_zero,Int.toNat_one,Int.natCast_nonneg,Int.le_refl,Nat.le_refl,Nat.reduceAdd,Nat.reduceMul,Nat.reduceLeDiff,Nat.reduceLT,Int.reduceLE,Int.reduceLT,Nat.reduceBEq,Nat.reduceEqDiff,Bool.not_true,Bool.not_false,Bool.and_false,Bool.false_and,Bool.or_true,Bool.true_or,Bool.or_false,Bool.false_or,call_func,c_draw,c_loop,FinK,n0,pickB_true]
      exact h
    have hpos := List.length_pos_iff.2 h0
    have d0 : (0 : Int) < (rows.length : Int) := by omega
    have n0 : ((rows.length : Int) == 0) = false := by simp; omega
    have hmem : rows.getD 0 default ∈ rows := by simp [List.getD_eq_getElem?_getD,hpos]
    cases W with
    | zero =>
      have hr0 : rows.getD 0 default = [] := List.eq_nil_of_length_eq_zero (hg.wide _ hmem)
      have e : togF cons (b + 1) rows = true := by rw [togF,if_pos (.inr hr0)]
      rw [e] at h
      have n1 : (((rows.getD 0 default).length : Int) == 0) = true := by rw [hr0]; rfl
      simp only [go_sem,imp_self,implies_true,reduceCtorEq,false_imp_iff,true_imp_iff,decide_true,decide_false,Int.toNat_natCast,Int.toNat_zero,Int.toNat_one,Int.natCast_nonneg,Int.le_refl,Nat.le_refl,Nat.reduceAdd,Nat.reduceMul,Nat.reduceLeDiff,Nat.reduceLT,Int.reduceLE,Int.reduceLT,Nat.reduceBEq,Nat.reduceEqDiff,Bool.not_true,Bool.not_false,Bool.and_false,Bool.false_and,Bool.or_true,Bool.true_or,Bool.or_false,Bool.false_or,call_func,c_draw,c_loop,FinK,d0,n0,n1,getD_map' _ hpos]
      exact h
    | succ W =>
    have hr0 : (rows.getD 0 default).length = W + 1 := hg.wide _ hmem
    have n1 : (((rows.getD 0 default).length : Int) == 0) = false := by rw [hr0]; simp; omega
    have hr1 : ¬ (rows = [] ∨ rows.getD 0 default = []) := by rintro (h | h); exact h0 h; rw [h] at hr0; simp at hr0
    rw [togF,if_neg hr1] at h
    simp only [go_sem,d0,n0,n1,getD_map' _ hpos]
    refine column_c rows hg.ne hg.len _ _ ?_
    by_cases hc : columnL rows = []
    · rw [if_pos hc] at h
      have n2 : (((columnL rows).length : Int) == 0) = true := by rw [hc]; rfl
      simp only [go_sem,n2]
      refine others_c rows hg.ne hg.len _ _ ?_
      simp only [go_sem]
      refine ih W _ (good_others hg) (by have := others_nl hg.ne; omega) _ _ ?_
      simp only [go_sem,imp_self,implies_true,reduceCtorEq,false_imp_iff,true_imp_iff,decide_true,decide_false,Int.toNat_natCast,Int.toNat_zero,Int.toNat_one,Int.natCast_nonneg,Int.le_refl,Nat.le_refl,Nat.reduceAdd,Nat.reduceMul,Nat.reduceLeDiff,Nat.reduceLT,Int.reduceLE,Int.reduceLT,Nat.reduceBEq,Nat.reduceEqDiff,Bool.not_true,Bool.not_false,Bool.and_false,Bool.false_and,Bool.or_true,Bool.true_or,Bool.or_false,Bool.false_or,call_func,c_draw,c_loop,FinK]
      exact h
    rw [if_neg hc] at h
    have hcpos := List.length_pos_iff.2 hc
    have n2 : (((columnL rows).length : Int) == 0) = false := by simp; omega
    have d2 : (0 : Int) < ((columnL rows).length : Int) := by omega
    simp only [go_sem,n2,d2,getD_map' _ hcpos]
    refine find_c cons _ (by have := hlow.1; omega) _ _ ?_
    simp only [go_sem]
    have hcl : (columnL rows).length ≤ 100000 := Nat.le_trans (columnL_len rows) hg.len
    refine awp_rounds [] (fun l e s => ∃ (k : Nat) (ex : St),k + l = (columnL rows).length ∧ (∀ i,i < k → odd cons ((columnL rows).getD 0 default) ((columnL rows).getD i default) = false) ∧
        e = [.slice .imm 5 (cons.map conSV),.slice .imm 1 (rows.map nodesSV),.any,.any,.any,.slice .imm 6 ((columnL rows).map nodeSV),.ptr st.length 0,.any,.any,.any,.any,.any,.any,.any,.any,.any,.any,.any,.any,.any,.any,.any,.any,.any,.any,.any,.any,.any,.any,.any,.any,.any,.any,.any,.any,.any,.any,.any,.any,.any,.any,.any,.any,.slice .imm 6 ((columnL rows).map nodeSV),.sc (.int .i64 (columnL rows).length),.sc (.int .i64 k),.any,.any,.any,.any,.any,.any,.any,.any,.any,.any,.any,.any,.any,.any,.any,.any,.any,.any,.any,.any,.any,.any,.any,.any,.any,.any,.any,.any,.any,.any,.any,.any,.any,.any,.any,.any,.any,.any,.any,.any,.any,.any,.any,.any,.any,.any,.any,.any,.any,.any,.any,.any] ∧ s = st ++ [.cells (conSV (conOf cons ((columnL rows).getD 0 default))).cells] ++ ex) (n := (columnL rows).length) ?_ ⟨0,[],by omega,fun i hi => absurd hi (Nat.not_lt_zero _),rfl,by simp [conOf]⟩ ?_
    · repeat (first | exact leEnv_nil | refine leEnv_any _ ?_ | refine leEnv_same _ ?_)
    · rintro l e s ⟨k,ex,hkl,hodd,rfl,rfl⟩
      by_cases hlt : k < (columnL rows).length
      · have i1 : (k : Int) < ((columnL rows).length : Int) := by omega
        have hw := wrap_succ k (by omega)
        have hisO : isObj (st ++ [.cells (conSV (conOf cons ((columnL rows).getD 0 default))).cells] ++ ex) st.length = True := eq_true (by simp [isObj])
        have hobj : objAt (st ++ [.cells (conSV (conOf cons ((columnL rows).getD 0 default))).cells] ++ ex) st.length = (conSV (conOf cons ((columnL rows).getD 0 default))).cells := by simp [objAt]
        have hmemk : (columnL rows).getD k default ∈ columnL rows := by simp [List.getD_eq_getElem?_getD,hlt]
        simp only [go_sem,i1,hisO,hobj,getD_map' _ hlt]
        generalize hs1 : st ++ [Ob.cells (conSV (conOf cons ((columnL rows).getD 0 default))).cells] ++ ex = s1 at *
        refine find_c cons _ (by have := hlow.1; omega) _ _ ?_
        have hfold : (findC cons ((columnL rows).getD k default).text).getD default = conOf cons ((columnL rows).getD k default) := rfl
        rw [hfold]
        simp only [go_sem,hisO,hobj]
        refine awp_draw [] Try.mixed rfl ?_
        simp only [go_sem,d2,hw,hisO,hobj,objAt_more,isObj_more,getD_map' _ hcpos,cells_kind]
        refine ⟨fun e => by rw [e]; rfl,fun hx => ?_,fun hx => ?_⟩
        · have hany : (columnL rows).any (odd cons ((columnL rows).getD 0 default)) = true := by
            rw [List.any_eq_true]; exact ⟨_,hmemk,hx⟩
          rw [if_pos hany] at h
          exact ⟨⟨_,rfl⟩,.sc _,h⟩
        · refine ⟨l - 1,_,by omega,?_,k + 1,_,by omega,fun i hi => ?_,rfl,rfl⟩
          · repeat (first | exact leEnv_nil | refine leEnv_any _ ?_ | refine leEnv_same _ ?_)
          · by_cases e : i = k
            · rw [e]; exact hx
            · exact hodd i (by omega)
      obtain rfl : k = (columnL rows).length := by omega
      have hany : (columnL rows).any (odd cons ((columnL rows).getD 0 default)) = false := by
        rw [List.any_eq_false]
        intro x hx
        obtain ⟨i,hi,rfl⟩ := List.mem_iff_getElem.1 hx
        have := hodd i hi
        have e : (columnL rows).getD i default = (columnL rows)[i] := by rw [List.getD_eq_getElem?_getD,List.getElem?_eq_getElem hi]; rfl
        rw [e] at this
        rw [this]; decide
      rw [if_neg (by rw [hany]; decide)] at h
      have d1 : (((columnL rows).length : Int) < ((columnL rows).length : Int)) = False := eq_false (by omega)
      simp only [go_sem,d1]
      refine awp_rounds [] (fun l e s => ∃ (k : Nat) (ex : St),k + l = (columnL rows).length ∧
          (∀ i,i < k → (!(((columnL rows).take i).any fun o => sameB o ((columnL rows).getD i default)) && !togF cons b (underL rows ((columnL rows).getD i default))) = false) ∧
          e = [.slice .imm 5 (cons.map conSV),.slice .imm 1 (rows.map nodesSV),.any,.any,.any,.slice .imm 6 ((columnL rows).map nodeSV),.any,.any,.any,.any,.any,.any,.any,.any,.any,.any,.any,.any,.any,.any,.any,.any,.any,.any,.any,.any,.any,.any,.any,.any,.any,.any,.any,.any,.any,.any,.any,.any,.any,.any,.any,.any,.any,.any,.any,.any,.any,.any,.any,.any,.any,.any,.any,.any,.any,.any,.any,.any,.any,.any,.any,.any,.any,.any,.any,.any,.any,.any,.any,.any,.any,.slice .imm 6 ((columnL rows).map nodeSV),.sc (.int .i64 (columnL rows).length),.sc (.int .i64 k),.any,.any,.any,.any,.any,.any,.any,.any,.any,.any,.any,.any,.any,.any,.any,.any,.any,.any,.any,.any,.any,.any,.any,.any] ∧ s = st ++ ex) (n := (columnL rows).length) ?_ ⟨0,_,by omega,fun i hi => absurd hi (Nat.not_lt_zero _),rfl,rfl⟩ ?_
      · repeat (first | exact leEnv_nil | refine leEnv_any _ ?_ | refine leEnv_same _ ?_)
      · clear hodd hany
        rintro l e s ⟨k,ex,hkl,hno,rfl,rfl⟩
        by_cases hlt : k < (columnL rows).length
        · have i1 : (k : Int) < ((columnL rows).length : Int) := by omega
          have i2 : (k : Int) ≤ ((columnL rows).length : Int) := by omega
          have hw := wrap_succ k (by omega)
          have hmemk : (columnL rows).getD k default ∈ columnL rows := by simp [List.getD_eq_getElem?_getD,hlt]
          obtain ⟨r0,hr0m,hr0e,hr0l⟩ := column_mem hmemk
          have hok : okB cons ((columnL rows).getD k default) = true := by rw [← hr0e]; exact hg.head hr0m
          have hk4 := ok_len hlow hok
          have hnl := (under_nl (head := (columnL rows).getD k default) hg.ne).2 ⟨r0,hr0m,by rw [hr0e]; exact hr0l⟩
          have hwid : ∀ r ∈ rows,r.length ≤ 100000 := fun r hr => by rw [hg.wide r hr]; omega
          have hkid : ∀ r ∈ rows,(r.getD 0 default).kids.length ≤ 5 := fun r hr => by have := ok_len hlow (hg.head hr); omega
          have hgu := good_under hg hok
          have z0 : ((0 : Nat) : Int) ≤ (k : Int) := by omega
          simp only [go_sem,i1,i2,z0,getD_map' _ hlt,← List.map_take]
          refine contSame_c _ _ ((columnL rows).getD k default) _ (by simp only [List.length_take]; omega) _ (by simp only [go_sem]) (by simp only [go_sem]) _ ?_
          have hcases : (((columnL rows).take k).any fun x => sameB x ((columnL rows).getD k default)) = true ∨ (((columnL rows).take k).any fun x => sameB x ((columnL rows).getD k default)) = false := by
            cases (((columnL rows).take k).any fun x => sameB x ((columnL rows).getD k default)) <;> simp
          have hnext : ∀ a : Bool,((!(((columnL rows).take k).any fun o => sameB o ((columnL rows).getD k default)) && !a) = false) → togF cons b (underL rows ((columnL rows).getD k default)) = a →
              ∀ i,i < k + 1 → (!(((columnL rows).take i).any fun o => sameB o ((columnL rows).getD i default)) && !togF cons b (underL rows ((columnL rows).getD i default))) = false := by
            intro a ha ht i hi
            by_cases e : i = k
            · rw [e,ht]; exact ha
            · exact hno i (by omega)
          refine hcases.elim (fun hd => ?_) (fun hd => ?_)
          · simp only [go_sem,hw,hd]
            refine ⟨l - 1,_,by omega,?_,k + 1,_,by omega,hnext _ (by rw [hd]; rfl) rfl,rfl,rfl⟩
            repeat (first | exact leEnv_nil | refine leEnv_any _ ?_ | refine leEnv_same _ ?_)
          · simp only [go_sem,hd]
            refine under_c rows ((columnL rows).getD k default) hg.ne hg.len (by omega) hwid hkid _ _ ?_
            simp only [go_sem,hd]
            refine ih _ _ hgu (by omega) _ _ ?_
            have htc : togF cons b (underL rows ((columnL rows).getD k default)) = true ∨ togF cons b (underL rows ((columnL rows).getD k default)) = false := by
              cases togF cons b (underL rows ((columnL rows).getD k default)) <;> simp
            refine htc.elim (fun ht => ?_) (fun ht => ?_)
            · simp only [go_sem,hd,ht,hw]
              refine ⟨l - 1,_,by omega,?_,k + 1,_,by omega,hnext true (by rw [hd]; rfl) ht,rfl,rfl⟩
              repeat (first | exact leEnv_nil | refine leEnv_any _ ?_ | refine leEnv_same _ ?_)
            · have hany : ((List.range (columnL rows).length).any fun i => !(((columnL rows).take i).any fun o => sameB o ((columnL rows).getD i default)) && !togF cons b (underL rows ((columnL rows).getD i default))) = true := by
                rw [List.any_eq_true]
                exact ⟨k,List.mem_range.2 hlt,by rw [hd,ht]; rfl⟩
              rw [if_pos hany] at h
              simp only [go_sem,hd,ht]
              exact ⟨⟨_,rfl⟩,.sc _,h⟩
        · obtain rfl : k = (columnL rows).length := by omega
          have hany : ((List.range (columnL rows).length).any fun i => !(((columnL rows).take i).any fun o => sameB o ((columnL rows).getD i default)) && !togF cons b (underL rows ((columnL rows).getD i default))) = false := by
            rw [List.any_eq_false]
            intro i hi
            rw [hno i (List.mem_range.1 hi)]; decide
          rw [if_neg (by rw [hany]; decide)] at h
          have d1 : (((columnL rows).length : Int) < ((columnL rows).length : Int)) = False := eq_false (by omega)
          have hgo := good_others hg
          have hno2 := others_nl hg.ne
          simp only [go_sem,d1]
          refine others_c rows hg.ne hg.len _ _ ?_
          simp only [go_sem]
          refine ih _ _ hgo (by omega) _ _ ?_
          simp only [go_sem]
          exact ⟨⟨_,rfl⟩,.sc _,h⟩
end Go.Proofs
