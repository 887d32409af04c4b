/- means. -/
import Derived.Test.YtcanmhognofheaaW16
set_option linter.all false
set_option maxHeartbeats 4000000
set_option linter.unusedSimpArgs false
set_option maxRecDepth 8000
namespace Go.Proofs
open Go Go.AL
def pMiss (heads : List Nd) : SV → Bool
  | .agg (.sc (.string s) :: _) => !(heads.any fun x => x.text.toList == s.toList)
  | _ => false
theorem ids_tup (n : Nat) (l : List Nd) (b : Bool) : Ids n (.tuple [nodesSV l,.sc (.bool b)]) := by
  refine .tuple _ fun i hi => ?_
  match i,hi with
  | 0,_ => exact ids_nodes n l
  | 1,_ => exact .sc _
theorem ids_tupc (n : Nat) (c : Cn) (b : Bool) : Ids n (.tuple [conSV c,.sc (.bool b)]) := by
  refine .tuple _ fun i hi => ?_
  match i,hi with
  | 0,_ => exact of_eq_true (ids_con n c)
  | 1,_ => exact .sc _
theorem any_miss (heads : List Nd) (l : List Cn) : (l.map conSV).any (pMiss heads) = l.any fun c => !(heads.any fun x => x.text.toList == c.name.toList) := by
  rw [List.any_map]; rfl
def pMea (cons : List Cn) (b : Nat) (rows : List (List Nd)) (q : List Nd) : SV → Bool
  | .agg [.sc (.string s),_,_,.sc (.int _ a),_] => meaF cons b (underL rows (headOf ⟨s,⟨#[]⟩,0,a,0⟩)) (belowL q (headOf ⟨s,⟨#[]⟩,0,a,0⟩))
  | _ => false
theorem any_mea (cons : List Cn) (b : Nat) (rows : List (List Nd)) (q : List Nd) (l : List Cn) : (l.map conSV).any (pMea cons b rows q) = l.any fun c => meaF cons b (underL rows (headOf c)) (belowL q (headOf c)) := by
  rw [List.any_map]; rfl
theorem miss_c (l : List Cn) (heads : List Nd) (hb : heads.length ≤ 100000) (hl : l.length ≤ 100000) (id : Nat) (st : St) (hi : isObj st id) (ho : objAt st id = [nodesSV heads]) (K : SV → St → Prop)
    (h : K (.sc (.bool (l.any fun c => !(heads.any fun x => x.text.toList == c.name.toList)))) st) : ACalls Try.prog 47 [.slice .imm 5 (l.map conSV),.func (.func 48) [] [.ptr id 0]] K st := by
  rw [← any_miss] at h
  refine contains32_c _ _ (pMiss heads) 48 _ Try.abody48 (fun x hx => ?_) (by simp only [List.length_map]; omega) _ (fun x hx K h => ?_) _ h
  · obtain ⟨c,_,rfl⟩ := List.mem_map.1 hx
    exact cellsOf_con c Try.aagg41 Try.asize41
  · obtain ⟨c,_,rfl⟩ := List.mem_map.1 hx
    exact means1_c c heads hb id K _ hi ho h
theorem all_c (cons : List Cn) (hlow : Low cons) (hfind : ∀ c ∈ cons,findC cons c.name = some c) (b : Nat) (hb : b ≤ 100000) (hm : MeaOk cons b) (W : Nat) (rows : List (List Nd)) (q : List Nd) (hg : Good cons (W + 1) rows) (hq : q.length = W + 1) (ho : okL cons q = true)
    (hne : columnL rows ≠ []) (hlt : 6 * (nlR rows + nlL q) + (W + 1) < b + 1) (hql : looseB (q.getD 0 default) = true) (l : List Cn) (hl : ∀ c ∈ l,c ∈ cons) (hll : l.length ≤ 100000) (K : SV → St → Prop) (st : St)
    (h : K (.sc (.bool (l.any fun c => meaF cons b (underL rows (headOf c)) (belowL q (headOf c))))) st) : ACalls Try.prog 47 [.slice .imm 5 (l.map conSV),.func (.func 50) [] [.ref [nodesSV q],.ref [consSV cons],.ref [rowsSV rows]]] K st := by
  rw [← any_mea] at h
  refine contains32_c _ _ (pMea cons b rows q) 50 _ Try.abody50 (fun x hx => ?_) (by simp only [List.length_map]; omega) _ (fun x hx K h => ?_) _ h
  · obtain ⟨c,_,rfl⟩ := List.mem_map.1 hx
    exact cellsOf_con c Try.aagg41 Try.asize41
  · obtain ⟨c,hc,rfl⟩ := List.mem_map.1 hx
    exact mea2_c cons hlow hfind b hb hm W rows q hg hq ho hne hlt hql c (hl c hc) K _ h
theorem mea_c (cons : List Cn) (hlow : Low cons) (hfind : ∀ c ∈ cons,findC cons c.name = some c) : ∀ (b : Nat),b ≤ 100000 → MeaOk cons b := by
  intro b
  induction b with
  | zero => intro _ W rows q _ _ _ h; exact absurd h (Nat.not_lt_zero _)
  | succ b ih0 =>
    intro hbb W rows q hg hq ho hlt K st h
    have hm := ih0 (by omega)
    refine acalls_go_pure [] Try.func19 rfl Try.results19 Try.ntmps19 ?_
    by_cases h0 : rows = []
    · rw [meaF,if_pos (.inl h0),decide_eq_true h0] at h
      have n0 : ((rows.length : Int) == 0) = true := by rw [h0]; rfl
      simp only [go_sem,n0]
      exact ⟨⟨[],by simp⟩,.sc _,h⟩
    have hpos := List.length_pos_iff.2 h0
    have n0 : ((rows.length : Int) == 0) = false := by simp; omega
    cases W with
    | zero =>
      have hq0 : q = [] := List.eq_nil_of_length_eq_zero hq
      rw [meaF,if_pos (.inr hq0),decide_eq_false h0] at h
      have n1 : ((q.length : Int) == 0) = true := by rw [hq0]; rfl
      simp only [go_sem,n0,n1]
      exact ⟨⟨[],by simp⟩,.sc _,h⟩
    | succ W =>
    have hqne : q ≠ [] := by rintro rfl; simp at hq
    have hqpos := List.length_pos_iff.2 hqne
    have n1 : ((q.length : Int) == 0) = false := by simp; omega
    have d0 : (0 : Int) < (q.length : Int) := by omega
    have d3 : (1 : Int) ≤ (q.length : Int) := by omega
    rw [meaF,if_neg (by rintro (h | h); exact h0 h; exact hqne h)] at h
    have hok0 := okL_all.1 ho _ (getD0_mem hqne)
    have hk4 := ok_len hlow hok0
    have hwid : ∀ r ∈ rows,r.length ≤ 100000 := fun r hr => by rw [hg.wide r hr]; omega
    have hkid : ∀ r ∈ rows,(r.getD 0 default).kids.length ≤ 5 := fun r hr => by have := ok_len hlow (hg.head hr); omega
    have hgo := good_others hg
    have hno := others_nl hg.ne
    have hqs := nlL_split hqne
    have hcl : (columnL rows).length ≤ 100000 := Nat.le_trans (columnL_len rows) hg.len
    have hqd : (q.drop 1).length = W := by simp [hq]
    have hhc : columnL rows = [] ∨ (columnL rows ≠ [] ∧ ((columnL rows).getD 0 default).kind ≠ 5) ∨ (columnL rows ≠ [] ∧ ((columnL rows).getD 0 default).kind = 5) := by
      by_cases h1 : columnL rows = []
      · exact .inl h1
      · by_cases h2 : ((columnL rows).getD 0 default).kind = 5
        · exact .inr (.inr ⟨h1,h2⟩)
        · exact .inr (.inl ⟨h1,h2⟩)
    have hC : columnL rows ≠ [] ∧ ((columnL rows).getD 0 default).kind = 5 → cons ≠ [] := by
      intro h1
      have hcp := List.length_pos_iff.2 h1.1
      have hmem0 : (columnL rows).getD 0 default ∈ columnL rows := by simp [List.getD_eq_getElem?_getD,hcp]
      obtain ⟨r1,hr1m,hr1e,_⟩ := column_mem hmem0
      have hokh : okB cons ((columnL rows).getD 0 default) = true := by rw [← hr1e]; exact hg.head hr1m
      rcases ok_con hokh with ⟨k1,_⟩ | ⟨_,c,k1,_⟩
      · rw [h1.2] at k1; cases k1
      · rintro rfl; exact absurd (findC_mem k1) (by simp)
    have hofl : (ofL cons (conOf cons ((columnL rows).getD 0 default)).of_).length ≤ 100000 := Nat.le_trans (List.length_filter_le _ _) hlow.1
    have hmc : ((ofL cons (conOf cons ((columnL rows).getD 0 default)).of_).any fun c => !((columnL rows).any fun x => x.text.toList == c.name.toList)) = true ∨
          ((ofL cons (conOf cons ((columnL rows).getD 0 default)).of_).any fun c => !((columnL rows).any fun x => x.text.toList == c.name.toList)) = false := by
        cases ((ofL cons (conOf cons ((columnL rows).getD 0 default)).of_).any fun c => !((columnL rows).any fun x => x.text.toList == c.name.toList)) <;> simp
    have hLc : looseB (q.getD 0 default) = false ∨ looseB (q.getD 0 default) = true := by cases looseB (q.getD 0 default) <;> simp
    simp only [go_sem,n0,n1,d0,getD_map' _ hqpos]
    refine loose_c _ _ _ ?_
    refine hLc.elim (fun hL => ?_) (fun hL => ?_)
    · rw [if_pos hL] at h
      have hbq : belowB q (q.getD 0 default) = true := by
        unfold belowB sameB; simp
      have hbo := below_ok (W := W) hq ho hok0 hbq
      have hgu := good_under hg hok0
      have hnl := (under_nl (head := q.getD 0 default) hg.ne).1
      have hnq := (below_nl (head := q.getD 0 default) hqne).2 hL
      simp only [go_sem,hL]
      refine awp_draw [] Try.mixed rfl ?_
      simp only [go_sem,d0,getD_map' _ hqpos]
      refine ⟨.tuple [nodesSV (belowL q (q.getD 0 default)),.sc (.bool (belowB q (q.getD 0 default)))],?_,?_⟩
      · simp only [go_sem]
        exact below_c q _ hqne (by omega) (by omega) (by omega) _ _ ⟨⟨[],by simp⟩,ids_tup _ _ _,.inl rfl⟩
      simp only [go_sem]
      refine awp_draw [] Try.mixed rfl ?_
      simp only [go_sem,d0,getD_map' _ hqpos]
      refine ⟨rowsSV (underL rows (q.getD 0 default)),?_,?_⟩
      · simp only [go_sem]
        exact under_c rows (q.getD 0 default) hg.ne hg.len (by omega) hwid hkid _ _ ⟨⟨[],by simp⟩,ids_rows _ _,.inl rfl⟩
      simp only [go_sem]
      refine ⟨.sc (.bool (meaF cons b (underL rows (q.getD 0 default)) (belowL q (q.getD 0 default)))),?_,?_⟩
      · simp only [go_sem]
        exact hm _ _ _ hgu hbo.1 hbo.2 (by omega) _ _ ⟨⟨[],by simp⟩,.sc _,.inl rfl⟩
      simp only [go_sem]
      exact ⟨⟨[],by simp⟩,.sc _,h⟩
    rw [if_neg (by rw [hL]; decide)] at h
    have hoth : (columnL rows = [] ∨ ((columnL rows).getD 0 default).kind ≠ 5 ∨ ((ofL cons (conOf cons ((columnL rows).getD 0 default)).of_).any fun c => !((columnL rows).any fun x => x.text.toList == c.name.toList)) = true) →
        K (.sc (.bool (meaF cons b (othersL rows) (q.drop 1)))) st := by
      intro hx
      have hneg : ¬ ((!(columnL rows).isEmpty && ((columnL rows).getD 0 default).kind == 5 && !((ofL cons (conOf cons ((columnL rows).getD 0 default)).of_).any fun c => !((columnL rows).any fun x => x.text.toList == c.name.toList))) = true) := by
        intro e
        rw [Bool.and_eq_true,Bool.and_eq_true] at e
        obtain ⟨⟨e1,e2⟩,e3⟩ := e
        rcases hx with hx | hx | hx
        · rw [hx] at e1; cases e1
        · exact hx (by simpa using e2)
        · rw [hx] at e3; cases e3
      rw [if_neg hneg] at h
      exact h
    simp only [go_sem,hL]
    refine hhc.elim (fun h1 => ?_) fun hhc => hhc.elim (fun h1 => ?_) (fun h1 => ?_)
    · have c0 : decide ((0 : Int) < ((columnL rows).length : Int)) = false := by rw [h1]; rfl
      have hx := hoth (.inl h1)
      refine column_c rows hg.ne hg.len _ _ ?_
      simp only [go_sem,c0]
      refine awp_draw [] Try.mixed rfl ?_
      simp only [go_sem,d3,← List.map_drop,List.take_length]
      refine ⟨rowsSV (othersL rows),?_,?_⟩
      · simp only [go_sem]
        exact others_c rows hg.ne hg.len _ _ ⟨⟨[],by simp⟩,ids_rows _ _,.inl rfl⟩
      simp only [go_sem,d3,← List.map_drop,List.take_length]
      refine ⟨.sc (.bool (meaF cons b (othersL rows) (q.drop 1))),?_,?_⟩
      · simp only [go_sem]
        exact hm W _ (q.drop 1) hgo hqd (okL_drop ho 1) (by omega) _ _ ⟨⟨[],by simp⟩,.sc _,.inl rfl⟩
      simp only [go_sem]
      exact ⟨⟨_,rfl⟩,.sc _,hx⟩
    · have hcp := List.length_pos_iff.2 h1.1
      have c0 : (0 : Int) < ((columnL rows).length : Int) := by omega
      have c1 : (((columnL rows).getD 0 default).kind == 5) = false := by simpa using h1.2
      have hx := hoth (.inr (.inl h1.2))
      refine column_c rows hg.ne hg.len _ _ ?_
      simp only [go_sem,c0,c1,getD_map' _ hcp]
      refine awp_draw [] Try.mixed rfl ?_
      simp only [go_sem,d3,← List.map_drop,List.take_length]
      refine ⟨rowsSV (othersL rows),?_,?_⟩
      · simp only [go_sem]
        exact others_c rows hg.ne hg.len _ _ ⟨⟨[],by simp⟩,ids_rows _ _,.inl rfl⟩
      simp only [go_sem,d3,← List.map_drop,List.take_length]
      refine ⟨.sc (.bool (meaF cons b (othersL rows) (q.drop 1))),?_,?_⟩
      · simp only [go_sem]
        exact hm W _ (q.drop 1) hgo hqd (okL_drop ho 1) (by omega) _ _ ⟨⟨[],by simp⟩,.sc _,.inl rfl⟩
      simp only [go_sem]
      exact ⟨⟨_,rfl⟩,.sc _,hx⟩
    · have hcp := List.length_pos_iff.2 h1.1
      have c0 : (0 : Int) < ((columnL rows).length : Int) := by omega
      have c1 : (((columnL rows).getD 0 default).kind == 5) = true := by simpa using h1.2
      have hcne := hC h1
      refine column_c rows hg.ne hg.len _ _ ?_
      simp only [go_sem,c0,c1,getD_map' _ hcp]
      refine awp_drawE [] [9,10] [] (fun s => ∃ l,s = (st ++ [.cells [nodesSV (columnL rows)]]) ++ l) Try.mixed rfl rfl rfl rfl ⟨[],by simp [nodesSV]⟩ ?_
      refine dE_pure rfl rfl (consSV cons) (fun s _ => by simp only [go_sem]) ?_
      refine dE_pure rfl rfl (.slice .imm 6 ((columnL rows).map nodeSV)) (fun s hs => by obtain ⟨l,rfl⟩ := hs; simp only [go_sem]) ?_
      refine dE_pure rfl rfl (.ref (nodeSV ((columnL rows).getD 0 default)).cells) (fun s _ => by simp only [go_sem,c0,getD_map' _ hcp]) ?_
      refine dE_pure rfl rfl (.ref [.sc (.string ((columnL rows).getD 0 default).text)]) (fun s _ => by simp only [go_sem]) ?_
      refine dE_pure rfl rfl (.sc (.string ((columnL rows).getD 0 default).text)) (fun s _ => by simp only [go_sem]) ?_
      refine dE_pure rfl rfl (.tuple [conSV (conOf cons ((columnL rows).getD 0 default)),.sc (.bool (findC cons ((columnL rows).getD 0 default).text).isSome)]) (fun s _ => ?_) ?_
      · simp only [go_sem]
        refine ⟨_,?_,rfl⟩
        simp only [go_sem]
        exact find_c cons _ (by have := hlow.1; omega) _ _ ⟨⟨[],by simp⟩,ids_tupc _ _ _,.inl rfl⟩
      refine dE_pure rfl rfl (.tuple [conSV (conOf cons ((columnL rows).getD 0 default)),.sc (.bool (findC cons ((columnL rows).getD 0 default).text).isSome)]) (fun s _ => by simp only [go_sem]) ?_
      refine dE_pure rfl rfl (conSV (conOf cons ((columnL rows).getD 0 default))) (fun s _ => by simp only [go_sem]) ?_
      refine dE_pure rfl rfl (.sc (.bool (findC cons ((columnL rows).getD 0 default).text).isSome)) (fun s _ => by simp only [go_sem]) ?_
      refine dE_turn rfl (.ptr (st.length + 1) 0) (st ++ [.cells [nodesSV (columnL rows)]] ++ [.cells [.sc (.string ⟨#[]⟩),.sc (.string ⟨#[]⟩),.sc (.int .i64 0),.sc (.int .i64 0),.sc (.int .i64 0)]]) ?_ rfl ⟨_,rfl⟩ ?_
      · simp only [go_sem]
      refine dE_turn rfl .any (st ++ [.cells [nodesSV (columnL rows)]] ++ [.cells (conSV (conOf cons ((columnL rows).getD 0 default))).cells]) ?_ rfl ⟨_,rfl⟩ ?_
      · simp only [go_sem]
      refine dE_pure rfl rfl (.sc (.bool (findC cons ((columnL rows).getD 0 default).text).isSome)) (fun s _ => by simp only [go_sem]) ?_
      refine dE_end ?_
      simp only [go_sem]
      refine hmc.elim (fun hmi => ?_) (fun hmi => ?_)
      · have hx := hoth (.inr (.inr hmi))
        refine of_c cons hcne hlow.1 _ _ _ ?_
        simp only [go_sem]
        refine miss_c _ (columnL rows) hcl hofl st.length _ (by simp [isObj]) (by simp [objAt,nodesSV]) _ ?_
        simp only [go_sem,hmi]
        refine awp_draw [] Try.mixed rfl ?_
        simp only [go_sem,d3,← List.map_drop,List.take_length]
        refine ⟨rowsSV (othersL rows),?_,?_⟩
        · simp only [go_sem]
          exact others_c rows hg.ne hg.len _ _ ⟨⟨[],by simp⟩,ids_rows _ _,.inl rfl⟩
        simp only [go_sem,d3,← List.map_drop,List.take_length]
        refine ⟨.sc (.bool (meaF cons b (othersL rows) (q.drop 1))),?_,?_⟩
        · simp only [go_sem]
          exact hm W _ (q.drop 1) hgo hqd (okL_drop ho 1) (by omega) _ _ ⟨⟨[],by simp⟩,.sc _,.inl rfl⟩
        simp only [go_sem]
        exact ⟨⟨_,rfl⟩,.sc _,hx⟩
      · rw [if_pos (by rw [hmi,c1]; simp [h1.1])] at h
        refine of_c cons hcne hlow.1 _ _ _ ?_
        simp only [go_sem]
        refine miss_c _ (columnL rows) hcl hofl st.length _ (by simp [isObj]) (by simp [objAt,nodesSV]) _ ?_
        simp only [go_sem,hmi]
        refine all_c cons hlow hfind b (by omega) hm W rows q hg hq ho h1.1 (by omega) hL _ (fun c hc => (List.mem_filter.1 hc).1) hofl _ _ ?_
        simp only [go_sem]
        exact ⟨⟨_,rfl⟩,.sc _,h⟩
end Go.Proofs
