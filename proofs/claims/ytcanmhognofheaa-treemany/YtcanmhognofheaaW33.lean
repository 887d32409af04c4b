/- tree.under, tree.others. -/
import Derived.Test.YtcanmhognofheaaW32
set_option linter.all false
set_option maxHeartbeats 4000000
set_option linter.unusedSimpArgs false
set_option linter.unusedVariables false
set_option maxRecDepth 8000
namespace Go.Proofs
open Go Go.AL
structure RowsOk (rows : List Rw) (k : Nat) (head : Nd) : Prop where
  len : rows.length ≤ 100
  col : ∀ r ∈ rows,k < r.cols.length
  few : ∀ r ∈ rows,r.cols.length ≤ 100
  path : ∀ r ∈ rows,(r.cols.getD k default).path.length ≤ 100
  kids : head.kids.length ≤ 10
  has : ∀ r ∈ rows,looseB (r.cols.getD k default).pat = false → sameB (r.cols.getD k default).pat head = true → head.kids.length ≤ (r.cols.getD k default).pat.kids.length
theorem under_step (E : Eqs) (rows : List Rw) (k : Nat) (head : Nd) {j : Nat} (h : j < rows.length) :
    underK E (rows.take (j + 1)) k head = underK E (rows.take j) k head ++ if mayB E (rows[j].cols.getD k default) head then [⟨rows[j].cols.take k ++ intoL (rows[j].cols.getD k default) head ++ rows[j].cols.drop (k + 1),rows[j].pl⟩] else [] := by
  unfold underK
  rw [List.take_succ_eq_append_getElem h,List.filter_append,List.map_append]
  congr 1
  simp only [List.filter_cons,List.filter_nil]
  split <;> simp
theorem under_len (E : Eqs) (rows : List Rw) (k : Nat) (head : Nd) : (underK E rows k head).length ≤ rows.length := by
  unfold underK; rw [List.length_map]; exact List.length_filter_le _ _
theorem others_step (rows : List Rw) (k : Nat) {j : Nat} (h : j < rows.length) :
    othersK (rows.take (j + 1)) k = othersK (rows.take j) k ++ if looseB (rows[j].cols.getD k default).pat then [⟨rows[j].cols.take k ++ rows[j].cols.drop (k + 1),rows[j].pl⟩] else [] := by
  unfold othersK
  rw [List.take_succ_eq_append_getElem h,List.filter_append,List.map_append]
  congr 1
  simp only [List.filter_cons,List.filter_nil]
  split <;> simp
theorem others_len' (rows : List Rw) (k : Nat) : (othersK rows k).length ≤ rows.length := by
  unfold othersK; rw [List.length_map]; exact List.length_filter_le _ _
theorem ids_rw1 (n : Nat) (r : Rw) : Ids n (.slice .full 2 [rwSV r]) := ids_rws n .full (.inr rfl) [r]
theorem parts3 (n : Nat) (ls : List (List Cel)) : Ids n (.slice .full 1 (ls.map partSV)) := ids_slice (.inr rfl) fun x hx y hy => by
  obtain ⟨l,_,rfl⟩ := List.mem_map.1 hx
  simp only [partSV,SV.cells,List.mem_singleton] at hy
  subst hy
  exact ids_cels n .imm (.inl rfl) l
theorem ids_ifc (n : Nat) (b : Bool) (l : List Cel) : Ids n (.slice .imm 7 (if b then l.map celSV else [])) := by
  cases b
  · exact ids_cels n .imm (.inl rfl) []
  · exact ids_cels n .imm (.inl rfl) l
theorem under25_c (m : AL.Mode) (rows : List Rw) (k : Nat) (head : Nd) (hk : RowsOk rows k head) (K : SV → St → Prop) (st : St) (h : K (.slice .imm 2 ((underK eqsS rows k head).map rwSV)) st) :
    ACalls Try.prog 25 [.slice m 2 (rows.map rwSV),i64 k,nodeSV head] K st := by
  refine acalls_goV [] Try.func25 rfl Try.results25 Try.ntmps25 ?_
  simp -implicitDefEqProofs (maxSteps := 2000000) only [↓ops_nil,↓ops_none,↓ops_some,↓kd_eff,↓dr_nil,↓dr_cons,↓d1_none,↓d1_some,↓eff_store,↓eff_box,↓eff_alloc,↓eff_build,↓eff_buildSlice,↓eff_call,↓eff_append,↓eff_copy,↓eff_cap,↓eff_clear,↓eff_make,↓reduceIte,↓c_condI,↓c_seqH,↓c_blockH,↓then_nH,↓then_rH,↓then_eH,↓block_nH,↓block_rH,↓block_eH,go_sem,List.length_map]
  refine awp_own 7 2 0 rfl ?_
  refine awp_rounds [] (fun b e s => ∃ j v,j + b = rows.length ∧ s[st.length]? = some (.tok v) ∧ (∃ ex,s = st ++ ex) ∧ e = [.any,i64 k,.any,.any,.any,.ref (nodeSV head).cells,.any,.slice (.own st.length v) 2 ((underK eqsS (rows.take j) k head).map rwSV),.any,.any,.any,.any,.slice m 2 (rows.map rwSV),i64 rows.length,i64 j,.any,.any,.any,.any,.any,.any,.any,.any,.any,.any,.any,.any,.any,.any,.any,.any,.any,.any,.any,.any,.any,.any,.any,.any,.any,.any,.any,.any,.any,.any,.any,.any,.any,.any]) (n := rows.length) ?_ ⟨0,0,by omega,by simp,⟨_,rfl⟩,rfl⟩ ?_
  · simp only [List.set_cons_succ,List.set_cons_zero]
    repeat (first | exact leEnv_nil | refine leEnv_any _ ?_ | refine leEnv_same _ ?_ | refine leEnv_norm _ ?_)
  rintro b e s ⟨j,v,hjb,hT,hex,rfl⟩
  by_cases hlt : j < rows.length
  · have c1 : (j : Int) < (rows.length : Int) := by omega
    have c3 : (0 : Int) ≤ (j : Int) := by omega
    have hw := wrap1 (k := j) (by have := hk.len; omega)
    have hgt := getm rwSV hlt
    have hmem : rows[j] ∈ rows := List.getElem_mem hlt
    have hcol := hk.col _ hmem
    have hfew := hk.few _ hmem
    have hpath := hk.path _ hmem
    have hhas := hk.has _ hmem
    have hstep := under_step eqsS rows k head hlt
    have hul := under_len eqsS (rows.take j) k head
    have hlj : (rows.take j).length ≤ 100 := by have := hk.len; rw [List.length_take]; omega
    obtain ⟨r,hr⟩ : ∃ r,rows[j] = r := ⟨_,rfl⟩
    rw [hr] at hgt hcol hfew hpath hhas hstep
    rw [getd hcol] at hpath hhas hstep
    have hgc := getm celSV hcol
    obtain ⟨c,hc⟩ : ∃ c,r.cols[k] = c := ⟨_,rfl⟩
    rw [hc] at hgc hpath hhas hstep
    have c2 : (k : Int) < (r.cols.length : Int) := by omega
    have c4 : (0 : Int) ≤ (k : Int) := by omega
    simp -implicitDefEqProofs (maxSteps := 2000000) only [↓ops_nil,↓ops_none,↓ops_some,↓kd_eff,↓dr_nil,↓dr_cons,↓d1_none,↓d1_some,↓eff_store,↓eff_box,↓eff_alloc,↓eff_build,↓eff_buildSlice,↓eff_call,↓eff_append,↓eff_copy,↓eff_cap,↓eff_clear,↓eff_make,↓reduceIte,↓c_condI,↓c_seqH,↓c_blockH,↓then_nH,↓then_rH,↓then_eH,↓block_nH,↓block_rH,↓block_eH,go_sem,c1,c3,hgt,rwSV,List.length_map]
    obtain ⟨S1,hS1⟩ : ∃ S1,s ++ [Ob.cells [.slice .imm 7 (r.cols.map celSV),i64 r.pl]] = S1 := ⟨_,rfl⟩
    have g9 : S1[s.length]? = some (.cells [.slice .imm 7 (r.cols.map celSV),i64 r.pl]) := by rw [← hS1]; simp
    have gT : S1[st.length]? = some (.tok v) := by rw [← hS1]; exact get_app hT _
    have r9 := cells_facts g9
    rw [hS1]
    refine awp_drawH [] Try.mixed rfl fun R hR => ?_
    simp -implicitDefEqProofs (maxSteps := 2000000) only [↓ops_nil,↓ops_none,↓ops_some,↓kd_eff,↓dr_nil,↓dr_cons,↓d1_none,↓d1_some,↓eff_store,↓eff_box,↓eff_alloc,↓eff_build,↓eff_buildSlice,↓eff_call,↓eff_append,↓eff_copy,↓eff_cap,↓eff_clear,↓eff_make,↓reduceIte,↓c_condI,↓c_seqH,↓c_blockH,↓then_nH,↓then_rH,↓then_eH,↓block_nH,↓block_rH,↓block_eH,go_sem,r9.1,r9.2.1,r9.2.2,c2,c4,hgc,cell_cel,cell_nd,List.length_map]
    have hm : mayB eqsS c head = (looseB c.pat || sameB c.pat head) := rfl
    rw [hm] at hstep
    obtain ⟨q,hq⟩ : ∃ q,(looseB c.pat || sameB c.pat head) = q := ⟨_,rfl⟩
    rw [hq] at hstep
    have hinto : ∀ (K : SV → St → Prop) (st : St),K (.tuple [.slice .imm 7 (if q then (intoL c head).map celSV else []),.sc (.bool q)]) st → ACalls Try.prog 57 [celSV c,nodeSV head] K st := fun K st h => into_c c head (by have := hk.kids; omega) (by omega) hhas K st (by rw [hq]; exact h)
    rw [dk_eff]
    refine ⟨.tuple [.slice .imm 7 (if q then (intoL c head).map celSV else []),.sc (.bool q)],?_,?_⟩
    · simp -implicitDefEqProofs (maxSteps := 2000000) only [↓ops_nil,↓ops_none,↓ops_some,↓kd_eff,↓dr_nil,↓dr_cons,↓d1_none,↓d1_some,↓eff_store,↓eff_box,↓eff_alloc,↓eff_build,↓eff_buildSlice,↓eff_call,↓eff_append,↓eff_copy,↓eff_cap,↓eff_clear,↓eff_make,↓reduceIte,↓c_condI,↓c_seqH,↓c_blockH,↓then_nH,↓then_rH,↓then_eH,↓block_nH,↓block_rH,↓block_eH,go_sem]
      refine hinto _ _ ?_
      exact ⟨⟨[],by simp⟩,ids_tuple2 (ids_ifc _ _ _) (.sc _),.inl rfl⟩
    simp -implicitDefEqProofs (maxSteps := 2000000) only [↓ops_nil,↓ops_none,↓ops_some,↓kd_eff,↓dr_nil,↓dr_cons,↓d1_none,↓d1_some,↓eff_store,↓eff_box,↓eff_alloc,↓eff_build,↓eff_buildSlice,↓eff_call,↓eff_append,↓eff_copy,↓eff_cap,↓eff_clear,↓eff_make,↓reduceIte,↓c_condI,↓c_seqH,↓c_blockH,↓then_nH,↓then_rH,↓then_eH,↓block_nH,↓block_rH,↓block_eH,go_sem]
    rw [hR]
    cases q with
    | false =>
      simp only [Bool.false_eq_true,if_false,List.append_nil] at hstep
      simp -implicitDefEqProofs (maxSteps := 2000000) only [↓ops_nil,↓ops_none,↓ops_some,↓kd_eff,↓dr_nil,↓dr_cons,↓d1_none,↓d1_some,↓eff_store,↓eff_box,↓eff_alloc,↓eff_build,↓eff_buildSlice,↓eff_call,↓eff_append,↓eff_copy,↓eff_cap,↓eff_clear,↓eff_make,↓reduceIte,↓c_condI,↓c_seqH,↓c_blockH,↓then_nH,↓then_rH,↓then_eH,↓block_nH,↓block_rH,↓block_eH,go_sem,hw]
      refine ⟨b - 1,[.any,i64 k,.any,.any,.any,.ref (nodeSV head).cells,.any,.slice (.own st.length v) 2 ((underK eqsS (rows.take (j + 1)) k head).map rwSV),.any,.any,.any,.any,.slice m 2 (rows.map rwSV),i64 rows.length,i64 ((j + 1 : Nat) : Int),.any,.any,.any,.any,.any,.any,.any,.any,.any,.any,.any,.any,.any,.any,.any,.any,.any,.any,.any,.any,.any,.any,.any,.any,.any,.any,.any,.any,.any,.any,.any,.any,.any,.any],by omega,?_,j + 1,v,by omega,gT,?_,rfl⟩
      · rw [hstep]
        repeat (first | exact leEnv_nil | refine leEnv_any _ ?_ | refine leEnv_same _ ?_ | refine leEnv_norm _ ?_)
      · rw [← hS1]; exact ex_app2 hex _
    | true =>
      simp only [if_true] at hstep ⊢
      have hlen : lens [r.cols.take k,intoL c head,r.cols.drop (k + 1)] ≤ 100000 := by
        simp only [lens,List.map_cons,List.map_nil,List.sum_cons,List.sum_nil,List.length_take,List.length_drop,intoL,List.length_map,List.length_range]
        have := hk.kids
        omega
      have hwk := wrap1 (k := k) (by omega)
      have c5 : (k : Int) ≤ (r.cols.length : Int) := by omega
      have c6 : ((k + 1 : Nat) : Int) ≤ (r.cols.length : Int) := by omega
      have c8 : ((0 : Nat) : Int) ≤ (k : Int) := by omega
      have c7 : (0 : Int) ≤ ((k + 1 : Nat) : Int) := by omega
      have hap := app44 (n := (underK eqsS (rows.take j) k head).length + 1) (by omega)
      have qt := tokAt_eq (v' := v) gT
      simp -implicitDefEqProofs (maxSteps := 2000000) only [↓ops_nil,↓ops_none,↓ops_some,↓kd_eff,↓dr_nil,↓dr_cons,↓d1_none,↓d1_some,↓eff_store,↓eff_box,↓eff_alloc,↓eff_build,↓eff_buildSlice,↓eff_call,↓eff_append,↓eff_copy,↓eff_cap,↓eff_clear,↓eff_make,↓reduceIte,↓c_condI,↓c_seqH,↓c_blockH,↓then_nH,↓then_rH,↓then_eH,↓block_nH,↓block_rH,↓block_eH,go_sem]
      refine awp_drawW [] [(0,[]),(0,[]),(0,[]),(0,[]),(0,[]),(0,[]),(0,[]),(0,[]),(0,[]),(0,[]),(0,[]),(0,[]),(0,[]),(0,[]),(0,[]),(0,[]),(0,[]),(3,[19]),(0,[])] Try.mixed rfl ?_
      simp -implicitDefEqProofs (maxSteps := 2000000) only [↓ops_nil,↓ops_none,↓ops_some,↓kd_eff,↓dr_nil,↓dr_cons,↓d1_none,↓d1_some,↓eff_store,↓eff_box,↓eff_alloc,↓eff_build,↓eff_buildSlice,↓eff_call,↓eff_append,↓eff_copy,↓eff_cap,↓eff_clear,↓eff_make,↓reduceIte,↓c_condI,↓c_seqH,↓c_blockH,↓then_nH,↓then_rH,↓then_eH,↓block_nH,↓block_rH,↓block_eH,go_sem,drawW_n,drawW_0,drawW_1,drawW_2,drawW_3,pend_n,pend_c,headD_c,isStore_s,r9.1,r9.2.1,r9.2.2,c4,c5,c6,c7,c8,hwk,Int.toNat_natCast,List.length_map,List.take_length,← List.map_take,← List.map_drop]
      rw [dk_eff]
      refine ⟨.slice .full 1 ([r.cols.take k,intoL c head,r.cols.drop (k + 1)].map partSV),?_,?_⟩
      · simp -implicitDefEqProofs (maxSteps := 2000000) only [↓ops_nil,↓ops_none,↓ops_some,↓kd_eff,↓dr_nil,↓dr_cons,↓d1_none,↓d1_some,↓eff_store,↓eff_box,↓eff_alloc,↓eff_build,↓eff_buildSlice,↓eff_call,↓eff_append,↓eff_copy,↓eff_cap,↓eff_clear,↓eff_make,↓reduceIte,↓c_condI,↓c_seqH,↓c_blockH,↓then_nH,↓then_rH,↓then_eH,↓block_nH,↓block_rH,↓block_eH,go_sem]
        exact ⟨⟨[],by simp⟩,parts3 _ [r.cols.take k,intoL c head,r.cols.drop (k + 1)],.inl rfl⟩
      rw [dk_eff]
      refine ⟨.slice .imm 7 ([r.cols.take k,intoL c head,r.cols.drop (k + 1)].flatten.map celSV),?_,?_⟩
      · simp -implicitDefEqProofs (maxSteps := 2000000) only [↓ops_nil,↓ops_none,↓ops_some,↓kd_eff,↓dr_nil,↓dr_cons,↓d1_none,↓d1_some,↓eff_store,↓eff_box,↓eff_alloc,↓eff_build,↓eff_buildSlice,↓eff_call,↓eff_append,↓eff_copy,↓eff_cap,↓eff_clear,↓eff_make,↓reduceIte,↓c_condI,↓c_seqH,↓c_blockH,↓then_nH,↓then_rH,↓then_eH,↓block_nH,↓block_rH,↓block_eH,go_sem]
        refine concat_c .full _ hlen (by simp) _ _ ?_
        exact ⟨⟨[],by simp⟩,ids_cels _ .imm (.inl rfl) _,.inl rfl⟩
      have hfl : [r.cols.take k,intoL c head,r.cols.drop (k + 1)].flatten = r.cols.take k ++ intoL c head ++ r.cols.drop (k + 1) := by simp
      rw [hfl]
      obtain ⟨nc,hnc⟩ : ∃ nc,r.cols.take k ++ intoL c head ++ r.cols.drop (k + 1) = nc := ⟨_,rfl⟩
      rw [hnc] at hstep ⊢
      simp -implicitDefEqProofs (maxSteps := 2000000) only [↓ops_nil,↓ops_none,↓ops_some,↓kd_eff,↓dr_nil,↓dr_cons,↓d1_none,↓d1_some,↓eff_store,↓eff_box,↓eff_alloc,↓eff_build,↓eff_buildSlice,↓eff_call,↓eff_append,↓eff_copy,↓eff_cap,↓eff_clear,↓eff_make,↓reduceIte,↓c_condI,↓c_seqH,↓c_blockH,↓then_nH,↓then_rH,↓then_eH,↓block_nH,↓block_rH,↓block_eH,go_sem,drawW_n,drawW_0,drawW_1,drawW_2,drawW_3,pend_n,pend_c,headD_c,isStore_s,r9.1,r9.2.1,r9.2.2]
      rw [dk_eff]
      refine ⟨rwSV ⟨nc,r.pl⟩,?_,?_⟩
      · simp -implicitDefEqProofs (maxSteps := 2000000) only [↓ops_nil,↓ops_none,↓ops_some,↓kd_eff,↓dr_nil,↓dr_cons,↓d1_none,↓d1_some,↓eff_store,↓eff_box,↓eff_alloc,↓eff_build,↓eff_buildSlice,↓eff_call,↓eff_append,↓eff_copy,↓eff_cap,↓eff_clear,↓eff_make,↓reduceIte,↓c_condI,↓c_seqH,↓c_blockH,↓then_nH,↓then_rH,↓then_eH,↓block_nH,↓block_rH,↓block_eH,go_sem]
        exact ⟨⟨[],by simp⟩,ids_rw _ _,.inl rfl⟩
      rw [dk_eff]
      refine ⟨.slice .full 2 [rwSV ⟨nc,r.pl⟩],?_,?_⟩
      · simp -implicitDefEqProofs (maxSteps := 2000000) only [↓ops_nil,↓ops_none,↓ops_some,↓kd_eff,↓dr_nil,↓dr_cons,↓d1_none,↓d1_some,↓eff_store,↓eff_box,↓eff_alloc,↓eff_build,↓eff_buildSlice,↓eff_call,↓eff_append,↓eff_copy,↓eff_cap,↓eff_clear,↓eff_make,↓reduceIte,↓c_condI,↓c_seqH,↓c_blockH,↓then_nH,↓then_rH,↓then_eH,↓block_nH,↓block_rH,↓block_eH,go_sem,rwSV]
        exact ⟨⟨[],by simp⟩,ids_rw1 _ ⟨nc,r.pl⟩,.inl rfl⟩
      simp -implicitDefEqProofs (maxSteps := 2000000) only [↓ops_nil,↓ops_none,↓ops_some,↓kd_eff,↓dr_nil,↓dr_cons,↓d1_none,↓d1_some,↓eff_store,↓eff_box,↓eff_alloc,↓eff_build,↓eff_buildSlice,↓eff_call,↓eff_append,↓eff_copy,↓eff_cap,↓eff_clear,↓eff_make,↓reduceIte,↓c_condI,↓c_seqH,↓c_blockH,↓then_nH,↓then_rH,↓then_eH,↓block_nH,↓block_rH,↓block_eH,go_sem,drawW_n,drawW_0,drawW_1,drawW_2,drawW_3,pend_n,pend_c,headD_c,isStore_s,qt,List.length_map]
      refine ⟨_,_,⟨hap,rfl,rfl,rfl⟩,?_⟩
      simp -implicitDefEqProofs (maxSteps := 2000000) only [↓ops_nil,↓ops_none,↓ops_some,↓kd_eff,↓dr_nil,↓dr_cons,↓d1_none,↓d1_some,↓eff_store,↓eff_box,↓eff_alloc,↓eff_build,↓eff_buildSlice,↓eff_call,↓eff_append,↓eff_copy,↓eff_cap,↓eff_clear,↓eff_make,↓reduceIte,↓c_condI,↓c_seqH,↓c_blockH,↓then_nH,↓then_rH,↓then_eH,↓block_nH,↓block_rH,↓block_eH,go_sem,hw]
      have e9 : (underK eqsS (rows.take (j + 1)) k head).map rwSV = (underK eqsS (rows.take j) k head).map rwSV ++ [rwSV ⟨nc,r.pl⟩] := by rw [hstep,List.map_append]; rfl
      refine ⟨b - 1,[.any,i64 k,.any,.any,.any,.ref (nodeSV head).cells,.any,.slice (.own st.length (v + 1)) 2 ((underK eqsS (rows.take (j + 1)) k head).map rwSV),.any,.any,.any,.any,.slice m 2 (rows.map rwSV),i64 rows.length,i64 ((j + 1 : Nat) : Int),.any,.any,.any,.any,.any,.any,.any,.any,.any,.any,.any,.any,.any,.any,.any,.any,.any,.any,.any,.any,.any,.any,.any,.any,.any,.any,.any,.any,.any,.any,.any,.any,.any,.any],by omega,?_,j + 1,v + 1,by omega,set_get (lt_of_get gT),?_,rfl⟩
      · rw [e9]
        repeat (first | exact leEnv_nil | refine leEnv_any _ ?_ | refine leEnv_same _ ?_ | refine leEnv_norm _ ?_)
      · rw [← hS1]
        exact ex_set (ex_app2 hex _) (Nat.le_refl _) _
  obtain rfl : j = rows.length := by omega
  have c1 : ((rows.length : Int) < (rows.length : Int)) = False := eq_false (by omega)
  rw [List.take_length]
  simp -implicitDefEqProofs (maxSteps := 2000000) only [↓ops_nil,↓ops_none,↓ops_some,↓kd_eff,↓dr_nil,↓dr_cons,↓d1_none,↓d1_some,↓eff_store,↓eff_box,↓eff_alloc,↓eff_build,↓eff_buildSlice,↓eff_call,↓eff_append,↓eff_copy,↓eff_cap,↓eff_clear,↓eff_make,↓reduceIte,↓c_condI,↓c_seqH,↓c_blockH,↓then_nH,↓then_rH,↓then_eH,↓block_nH,↓block_rH,↓block_eH,go_sem,c1]
  exact ⟨_,le_imm _ _ _,hex,ids_rws _ .imm (.inl rfl) _,h⟩
theorem others27_c (m : AL.Mode) (rows : List Rw) (k : Nat) (hk : RowsOk rows k default) (K : SV → St → Prop) (st : St) (h : K (.slice .imm 2 ((othersK rows k).map rwSV)) st) :
    ACalls Try.prog 27 [.slice m 2 (rows.map rwSV),i64 k] K st := by
  refine acalls_goV [] Try.func27 rfl Try.results27 Try.ntmps27 ?_
  simp -implicitDefEqProofs (maxSteps := 2000000) only [↓ops_nil,↓ops_none,↓ops_some,↓kd_eff,↓dr_nil,↓dr_cons,↓d1_none,↓d1_some,↓eff_store,↓eff_box,↓eff_alloc,↓eff_build,↓eff_buildSlice,↓eff_call,↓eff_append,↓eff_copy,↓eff_cap,↓eff_clear,↓eff_make,↓reduceIte,↓c_condI,↓c_seqH,↓c_blockH,↓then_nH,↓then_rH,↓then_eH,↓block_nH,↓block_rH,↓block_eH,go_sem,List.length_map]
  refine awp_own 5 2 0 rfl ?_
  refine awp_rounds [] (fun b e s => ∃ j v,j + b = rows.length ∧ s[st.length]? = some (.tok v) ∧ (∃ ex,s = st ++ ex) ∧ e = [.any,i64 k,.any,.any,.any,.slice (.own st.length v) 2 ((othersK (rows.take j) k).map rwSV),.any,.any,.slice m 2 (rows.map rwSV),i64 rows.length,i64 j,.any,.any,.any,.any,.any,.any,.any,.any,.any,.any,.any,.any,.any,.any,.any,.any,.any,.any,.any,.any,.any,.any,.any,.any,.any,.any,.any,.any,.any]) (n := rows.length) ?_ ⟨0,0,by omega,by simp,⟨_,rfl⟩,rfl⟩ ?_
  · simp only [List.set_cons_succ,List.set_cons_zero]
    repeat (first | exact leEnv_nil | refine leEnv_any _ ?_ | refine leEnv_same _ ?_ | refine leEnv_norm _ ?_)
  rintro b e s ⟨j,v,hjb,hT,hex,rfl⟩
  by_cases hlt : j < rows.length
  · have c1 : (j : Int) < (rows.length : Int) := by omega
    have c3 : (0 : Int) ≤ (j : Int) := by omega
    have hw := wrap1 (k := j) (by have := hk.len; omega)
    have hgt := getm rwSV hlt
    have hmem : rows[j] ∈ rows := List.getElem_mem hlt
    have hcol := hk.col _ hmem
    have hfew := hk.few _ hmem
    have hpath := hk.path _ hmem
    have hhas := hk.has _ hmem
    have hstep := others_step rows k hlt
    have hul := others_len' (rows.take j) k
    have hlj : (rows.take j).length ≤ 100 := by have := hk.len; rw [List.length_take]; omega
    obtain ⟨r,hr⟩ : ∃ r,rows[j] = r := ⟨_,rfl⟩
    rw [hr] at hgt hcol hfew hpath hhas hstep
    rw [getd hcol] at hpath hhas hstep
    have hgc := getm celSV hcol
    obtain ⟨c,hc⟩ : ∃ c,r.cols[k] = c := ⟨_,rfl⟩
    rw [hc] at hgc hpath hhas hstep
    have c2 : (k : Int) < (r.cols.length : Int) := by omega
    have c4 : (0 : Int) ≤ (k : Int) := by omega
    obtain ⟨S1,hS1⟩ : ∃ S1,s ++ [Ob.cells [.slice .imm 7 (r.cols.map celSV),i64 r.pl]] = S1 := ⟨_,rfl⟩
    have g9 : S1[s.length]? = some (.cells [.slice .imm 7 (r.cols.map celSV),i64 r.pl]) := by rw [← hS1]; simp
    have gT : S1[st.length]? = some (.tok v) := by rw [← hS1]; exact get_app hT _
    have r9 := cells_facts g9
    obtain ⟨q,hq⟩ : ∃ q,looseB c.pat = q := ⟨_,rfl⟩
    rw [hq] at hstep
    simp -implicitDefEqProofs (maxSteps := 2000000) only [↓ops_nil,↓ops_none,↓ops_some,↓kd_eff,↓dr_nil,↓dr_cons,↓d1_none,↓d1_some,↓eff_store,↓eff_box,↓eff_alloc,↓eff_build,↓eff_buildSlice,↓eff_call,↓eff_append,↓eff_copy,↓eff_cap,↓eff_clear,↓eff_make,↓reduceIte,↓c_condI,↓c_seqH,↓c_blockH,↓then_nH,↓then_rH,↓then_eH,↓block_nH,↓block_rH,↓block_eH,go_sem,c1,c2,c3,c4,hgt,hgc,rwSV,hS1,r9.1,r9.2.1,r9.2.2,celSV,agg_nd,List.length_map]
    refine loose23_c _ _ _ ?_
    rw [hq]
    cases q with
    | false =>
      simp only [Bool.false_eq_true,if_false,List.append_nil] at hstep
      simp -implicitDefEqProofs (maxSteps := 2000000) only [↓ops_nil,↓ops_none,↓ops_some,↓kd_eff,↓dr_nil,↓dr_cons,↓d1_none,↓d1_some,↓eff_store,↓eff_box,↓eff_alloc,↓eff_build,↓eff_buildSlice,↓eff_call,↓eff_append,↓eff_copy,↓eff_cap,↓eff_clear,↓eff_make,↓reduceIte,↓c_condI,↓c_seqH,↓c_blockH,↓then_nH,↓then_rH,↓then_eH,↓block_nH,↓block_rH,↓block_eH,go_sem,hw]
      refine ⟨b - 1,[.any,i64 k,.any,.any,.any,.slice (.own st.length v) 2 ((othersK (rows.take (j + 1)) k).map rwSV),.any,.any,.slice m 2 (rows.map rwSV),i64 rows.length,i64 ((j + 1 : Nat) : Int),.any,.any,.any,.any,.any,.any,.any,.any,.any,.any,.any,.any,.any,.any,.any,.any,.any,.any,.any,.any,.any,.any,.any,.any,.any,.any,.any,.any,.any],by omega,?_,j + 1,v,by omega,gT,?_,rfl⟩
      · rw [hstep]
        repeat (first | exact leEnv_nil | refine leEnv_any _ ?_ | refine leEnv_same _ ?_ | refine leEnv_norm _ ?_)
      · rw [← hS1]; exact ex_app2 hex _
    | true =>
      simp only [if_true] at hstep ⊢
      have hlen : lens [r.cols.take k,r.cols.drop (k + 1)] ≤ 100000 := by
        simp only [lens,List.map_cons,List.map_nil,List.sum_cons,List.sum_nil,List.length_take,List.length_drop]
        omega
      have hwk := wrap1 (k := k) (by omega)
      have c5 : (k : Int) ≤ (r.cols.length : Int) := by omega
      have c6 : ((k + 1 : Nat) : Int) ≤ (r.cols.length : Int) := by omega
      have c8 : ((0 : Nat) : Int) ≤ (k : Int) := by omega
      have c7 : (0 : Int) ≤ ((k + 1 : Nat) : Int) := by omega
      have hap := app44 (n := (othersK (rows.take j) k).length + 1) (by omega)
      have qt := tokAt_eq (v' := v) gT
      simp -implicitDefEqProofs (maxSteps := 2000000) only [↓ops_nil,↓ops_none,↓ops_some,↓kd_eff,↓dr_nil,↓dr_cons,↓d1_none,↓d1_some,↓eff_store,↓eff_box,↓eff_alloc,↓eff_build,↓eff_buildSlice,↓eff_call,↓eff_append,↓eff_copy,↓eff_cap,↓eff_clear,↓eff_make,↓reduceIte,↓c_condI,↓c_seqH,↓c_blockH,↓then_nH,↓then_rH,↓then_eH,↓block_nH,↓block_rH,↓block_eH,go_sem]
      refine awp_drawW [] [(0,[]),(0,[]),(0,[]),(0,[]),(0,[]),(0,[]),(0,[]),(0,[]),(0,[]),(0,[]),(0,[]),(0,[]),(0,[]),(0,[]),(0,[]),(0,[]),(3,[18]),(0,[])] Try.mixed rfl ?_
      simp -implicitDefEqProofs (maxSteps := 2000000) only [↓ops_nil,↓ops_none,↓ops_some,↓kd_eff,↓dr_nil,↓dr_cons,↓d1_none,↓d1_some,↓eff_store,↓eff_box,↓eff_alloc,↓eff_build,↓eff_buildSlice,↓eff_call,↓eff_append,↓eff_copy,↓eff_cap,↓eff_clear,↓eff_make,↓reduceIte,↓c_condI,↓c_seqH,↓c_blockH,↓then_nH,↓then_rH,↓then_eH,↓block_nH,↓block_rH,↓block_eH,go_sem,drawW_n,drawW_0,drawW_1,drawW_2,drawW_3,pend_n,pend_c,headD_c,isStore_s,r9.1,r9.2.1,r9.2.2,c4,c5,c6,c7,c8,hwk,Int.toNat_natCast,List.length_map,List.take_length,← List.map_take,← List.map_drop]
      rw [dk_eff]
      refine ⟨.slice .full 1 ([r.cols.take k,r.cols.drop (k + 1)].map partSV),?_,?_⟩
      · simp -implicitDefEqProofs (maxSteps := 2000000) only [↓ops_nil,↓ops_none,↓ops_some,↓kd_eff,↓dr_nil,↓dr_cons,↓d1_none,↓d1_some,↓eff_store,↓eff_box,↓eff_alloc,↓eff_build,↓eff_buildSlice,↓eff_call,↓eff_append,↓eff_copy,↓eff_cap,↓eff_clear,↓eff_make,↓reduceIte,↓c_condI,↓c_seqH,↓c_blockH,↓then_nH,↓then_rH,↓then_eH,↓block_nH,↓block_rH,↓block_eH,go_sem]
        exact ⟨⟨[],by simp⟩,parts3 _ [r.cols.take k,r.cols.drop (k + 1)],.inl rfl⟩
      rw [dk_eff]
      refine ⟨.slice .imm 7 ([r.cols.take k,r.cols.drop (k + 1)].flatten.map celSV),?_,?_⟩
      · simp -implicitDefEqProofs (maxSteps := 2000000) only [↓ops_nil,↓ops_none,↓ops_some,↓kd_eff,↓dr_nil,↓dr_cons,↓d1_none,↓d1_some,↓eff_store,↓eff_box,↓eff_alloc,↓eff_build,↓eff_buildSlice,↓eff_call,↓eff_append,↓eff_copy,↓eff_cap,↓eff_clear,↓eff_make,↓reduceIte,↓c_condI,↓c_seqH,↓c_blockH,↓then_nH,↓then_rH,↓then_eH,↓block_nH,↓block_rH,↓block_eH,go_sem]
        refine concat_c .full _ hlen (by simp) _ _ ?_
        exact ⟨⟨[],by simp⟩,ids_cels _ .imm (.inl rfl) _,.inl rfl⟩
      have hfl : [r.cols.take k,r.cols.drop (k + 1)].flatten = r.cols.take k ++ r.cols.drop (k + 1) := by simp
      rw [hfl]
      obtain ⟨nc,hnc⟩ : ∃ nc,r.cols.take k ++ r.cols.drop (k + 1) = nc := ⟨_,rfl⟩
      rw [hnc] at hstep ⊢
      simp -implicitDefEqProofs (maxSteps := 2000000) only [↓ops_nil,↓ops_none,↓ops_some,↓kd_eff,↓dr_nil,↓dr_cons,↓d1_none,↓d1_some,↓eff_store,↓eff_box,↓eff_alloc,↓eff_build,↓eff_buildSlice,↓eff_call,↓eff_append,↓eff_copy,↓eff_cap,↓eff_clear,↓eff_make,↓reduceIte,↓c_condI,↓c_seqH,↓c_blockH,↓then_nH,↓then_rH,↓then_eH,↓block_nH,↓block_rH,↓block_eH,go_sem,drawW_n,drawW_0,drawW_1,drawW_2,drawW_3,pend_n,pend_c,headD_c,isStore_s,r9.1,r9.2.1,r9.2.2]
      rw [dk_eff]
      refine ⟨rwSV ⟨nc,r.pl⟩,?_,?_⟩
      · simp -implicitDefEqProofs (maxSteps := 2000000) only [↓ops_nil,↓ops_none,↓ops_some,↓kd_eff,↓dr_nil,↓dr_cons,↓d1_none,↓d1_some,↓eff_store,↓eff_box,↓eff_alloc,↓eff_build,↓eff_buildSlice,↓eff_call,↓eff_append,↓eff_copy,↓eff_cap,↓eff_clear,↓eff_make,↓reduceIte,↓c_condI,↓c_seqH,↓c_blockH,↓then_nH,↓then_rH,↓then_eH,↓block_nH,↓block_rH,↓block_eH,go_sem]
        exact ⟨⟨[],by simp⟩,ids_rw _ _,.inl rfl⟩
      rw [dk_eff]
      refine ⟨.slice .full 2 [rwSV ⟨nc,r.pl⟩],?_,?_⟩
      · simp -implicitDefEqProofs (maxSteps := 2000000) only [↓ops_nil,↓ops_none,↓ops_some,↓kd_eff,↓dr_nil,↓dr_cons,↓d1_none,↓d1_some,↓eff_store,↓eff_box,↓eff_alloc,↓eff_build,↓eff_buildSlice,↓eff_call,↓eff_append,↓eff_copy,↓eff_cap,↓eff_clear,↓eff_make,↓reduceIte,↓c_condI,↓c_seqH,↓c_blockH,↓then_nH,↓then_rH,↓then_eH,↓block_nH,↓block_rH,↓block_eH,go_sem,rwSV]
        exact ⟨⟨[],by simp⟩,ids_rw1 _ ⟨nc,r.pl⟩,.inl rfl⟩
      simp -implicitDefEqProofs (maxSteps := 2000000) only [↓ops_nil,↓ops_none,↓ops_some,↓kd_eff,↓dr_nil,↓dr_cons,↓d1_none,↓d1_some,↓eff_store,↓eff_box,↓eff_alloc,↓eff_build,↓eff_buildSlice,↓eff_call,↓eff_append,↓eff_copy,↓eff_cap,↓eff_clear,↓eff_make,↓reduceIte,↓c_condI,↓c_seqH,↓c_blockH,↓then_nH,↓then_rH,↓then_eH,↓block_nH,↓block_rH,↓block_eH,go_sem,drawW_n,drawW_0,drawW_1,drawW_2,drawW_3,pend_n,pend_c,headD_c,isStore_s,qt,List.length_map]
      refine ⟨_,_,⟨hap,rfl,rfl,rfl⟩,?_⟩
      simp -implicitDefEqProofs (maxSteps := 2000000) only [↓ops_nil,↓ops_none,↓ops_some,↓kd_eff,↓dr_nil,↓dr_cons,↓d1_none,↓d1_some,↓eff_store,↓eff_box,↓eff_alloc,↓eff_build,↓eff_buildSlice,↓eff_call,↓eff_append,↓eff_copy,↓eff_cap,↓eff_clear,↓eff_make,↓reduceIte,↓c_condI,↓c_seqH,↓c_blockH,↓then_nH,↓then_rH,↓then_eH,↓block_nH,↓block_rH,↓block_eH,go_sem,hw]
      have e9 : (othersK (rows.take (j + 1)) k).map rwSV = (othersK (rows.take j) k).map rwSV ++ [rwSV ⟨nc,r.pl⟩] := by rw [hstep,List.map_append]; rfl
      refine ⟨b - 1,[.any,i64 k,.any,.any,.any,.slice (.own st.length (v + 1)) 2 ((othersK (rows.take (j + 1)) k).map rwSV),.any,.any,.slice m 2 (rows.map rwSV),i64 rows.length,i64 ((j + 1 : Nat) : Int),.any,.any,.any,.any,.any,.any,.any,.any,.any,.any,.any,.any,.any,.any,.any,.any,.any,.any,.any,.any,.any,.any,.any,.any,.any,.any,.any,.any,.any],by omega,?_,j + 1,v + 1,by omega,set_get (lt_of_get gT),?_,rfl⟩
      · rw [e9]
        repeat (first | exact leEnv_nil | refine leEnv_any _ ?_ | refine leEnv_same _ ?_ | refine leEnv_norm _ ?_)
      · rw [← hS1]
        exact ex_set (ex_app2 hex _) (Nat.le_refl _) _
  obtain rfl : j = rows.length := by omega
  have c1 : ((rows.length : Int) < (rows.length : Int)) = False := eq_false (by omega)
  rw [List.take_length]
  simp -implicitDefEqProofs (maxSteps := 2000000) only [↓ops_nil,↓ops_none,↓ops_some,↓kd_eff,↓dr_nil,↓dr_cons,↓d1_none,↓d1_some,↓eff_store,↓eff_box,↓eff_alloc,↓eff_build,↓eff_buildSlice,↓eff_call,↓eff_append,↓eff_copy,↓eff_cap,↓eff_clear,↓eff_make,↓reduceIte,↓c_condI,↓c_seqH,↓c_blockH,↓then_nH,↓then_rH,↓then_eH,↓block_nH,↓block_rH,↓block_eH,go_sem,c1]
  exact ⟨_,le_imm _ _ _,hex,ids_rws _ .imm (.inl rfl) _,h⟩
end Go.Proofs
