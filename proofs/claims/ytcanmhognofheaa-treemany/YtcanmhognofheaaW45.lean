/- selvageref09.Right, selvageref10.Build. -/
import Derived.Test.YtcanmhognofheaaM6
import Derived.Test.YtcanmhognofheaaW39
set_option linter.all false
set_option maxHeartbeats 4000000
set_option linter.unusedSimpArgs false
set_option linter.unusedVariables false
set_option maxRecDepth 8000
namespace Go.Proofs
open Go Go.AL
structure RowsR (rows : List Nd) : Prop where
  few : rows.length ≤ 20
  ok : ∀ p ∈ rows,okP eqsS 20 p = true ∧ szT 20 p ≤ 30
  tog : togT eqsS consL 20 rows = true
theorem rows_okR {n : Nat} (h : n < 21) : RowsR (manyRows n) := by
  have := all_rightT h
  unfold rightT at this
  simp only [Bool.and_eq_true,List.all_eq_true,decide_eq_true_eq] at this
  exact ⟨this.2,this.1.1,this.1.2⟩
theorem right12_c (rows : List Nd) (hr : RowsR rows) (K : SV → St → Prop) (st : St) (h : K (.sc (.bool true)) st) : ACalls Try.prog 12 [nodesSV rows,consSV consL] K st := by
  refine acalls_go_pure [] Try.func12 rfl Try.results12 Try.ntmps12 ?_
  have hf := hr.few
  have c0 : ¬ (20 : Int) < (rows.length : Int) := by omega
  simp -implicitDefEqProofs (maxSteps := 2000000) only [↓ops_nil,↓ops_none,↓ops_some,↓kd_eff,↓dr_nil,↓dr_cons,↓d1_none,↓d1_some,↓eff_store,↓eff_box,↓eff_alloc,↓eff_build,↓eff_buildSlice,↓eff_call,↓eff_append,↓eff_copy,↓eff_cap,↓eff_clear,↓eff_make,↓reduceIte,↓c_condI,↓c_seqH,↓c_blockH,↓then_nH,↓then_rH,↓then_eH,↓block_nH,↓block_rH,↓block_eH,go_sem]
  refine sound28_c _ _ ?_
  simp -implicitDefEqProofs (maxSteps := 2000000) only [↓ops_nil,↓ops_none,↓ops_some,↓kd_eff,↓dr_nil,↓dr_cons,↓d1_none,↓d1_some,↓eff_store,↓eff_box,↓eff_alloc,↓eff_build,↓eff_buildSlice,↓eff_call,↓eff_append,↓eff_copy,↓eff_cap,↓eff_clear,↓eff_make,↓reduceIte,↓c_condI,↓c_seqH,↓c_blockH,↓then_nH,↓then_rH,↓then_eH,↓block_nH,↓block_rH,↓block_eH,go_sem,c0,List.length_map]
  refine awp_rounds [] (fun b e s => ∃ j,j + b = rows.length ∧ s = st ∧ e = [nodesSV rows,consSV consL,.any,.any,.any,.any,i64 j,.any,.any,.any,.any,.any,.any,.any,.any,.any,.any,.any,.any,.any,.any,.any,.any,.any,.any,.any,.any,.any,.any,.any,.any,.any]) (n := rows.length) ?_ ⟨0,by omega,rfl,rfl⟩ ?_
  · simp only [nodesSV,consSV]
    repeat (first | exact leEnv_nil | refine leEnv_any _ ?_ | refine leEnv_same _ ?_ | refine leEnv_norm _ ?_)
  rintro b e s ⟨j,hj,rfl,rfl⟩
  by_cases hlt : j < rows.length
  · have c1 : (j : Int) < (rows.length : Int) := by omega
    have c3 : (0 : Int) ≤ (j : Int) := by omega
    have hw := wrap1 (k := j) (by omega)
    have hgt := getm nodeSV hlt
    have hp := hr.ok _ (List.getElem_mem hlt)
    obtain ⟨x,hx⟩ : ∃ x,rows[j] = x := ⟨_,rfl⟩
    rw [hx] at hgt hp
    have hpos : 0 < szT 20 x := szT_pos 19 x
    have e0 : (((szT 20 x : Nat) : Int) == 0) = false := by simp; omega
    simp -implicitDefEqProofs (maxSteps := 2000000) only [↓ops_nil,↓ops_none,↓ops_some,↓kd_eff,↓dr_nil,↓dr_cons,↓d1_none,↓d1_some,↓eff_store,↓eff_box,↓eff_alloc,↓eff_build,↓eff_buildSlice,↓eff_call,↓eff_append,↓eff_copy,↓eff_cap,↓eff_clear,↓eff_make,↓reduceIte,↓c_condI,↓c_seqH,↓c_blockH,↓then_nH,↓then_rH,↓then_eH,↓block_nH,↓block_rH,↓block_eH,go_sem,c1,c3,hgt,cell_nd,List.length_map]
    refine sizes 20 x hp.1 hp.2 _ _ ?_
    simp -implicitDefEqProofs (maxSteps := 2000000) only [↓ops_nil,↓ops_none,↓ops_some,↓kd_eff,↓dr_nil,↓dr_cons,↓d1_none,↓d1_some,↓eff_store,↓eff_box,↓eff_alloc,↓eff_build,↓eff_buildSlice,↓eff_call,↓eff_append,↓eff_copy,↓eff_cap,↓eff_clear,↓eff_make,↓reduceIte,↓c_condI,↓c_seqH,↓c_blockH,↓then_nH,↓then_rH,↓then_eH,↓block_nH,↓block_rH,↓block_eH,go_sem,e0,hw]
    refine ⟨b - 1,[nodesSV rows,consSV consL,.any,.any,.any,.any,i64 ((j + 1 : Nat) : Int),.any,.any,.any,.any,.any,.any,.any,.any,.any,.any,.any,.any,.any,.any,.any,.any,.any,.any,.any,.any,.any,.any,.any,.any,.any],by omega,?_,j + 1,by omega,rfl⟩
    simp only [nodesSV,consSV]
    repeat (first | exact leEnv_nil | refine leEnv_any _ ?_ | refine leEnv_same _ ?_ | refine leEnv_norm _ ?_)
  obtain rfl : j = rows.length := by omega
  have c1 : ((rows.length : Int) < (rows.length : Int)) = False := eq_false (by omega)
  simp -implicitDefEqProofs (maxSteps := 2000000) only [↓ops_nil,↓ops_none,↓ops_some,↓kd_eff,↓dr_nil,↓dr_cons,↓d1_none,↓d1_some,↓eff_store,↓eff_box,↓eff_alloc,↓eff_build,↓eff_buildSlice,↓eff_call,↓eff_append,↓eff_copy,↓eff_cap,↓eff_clear,↓eff_make,↓reduceIte,↓c_condI,↓c_seqH,↓c_blockH,↓then_nH,↓then_rH,↓then_eH,↓block_nH,↓block_rH,↓block_eH,go_sem,c1,List.length_map]
  refine togs 20 20 .imm rows (by omega) (fun p hp => (hr.ok p hp).1) hr.tog _ _ ?_
  simp -implicitDefEqProofs (maxSteps := 2000000) only [↓ops_nil,↓ops_none,↓ops_some,↓kd_eff,↓dr_nil,↓dr_cons,↓d1_none,↓d1_some,↓eff_store,↓eff_box,↓eff_alloc,↓eff_build,↓eff_buildSlice,↓eff_call,↓eff_append,↓eff_copy,↓eff_cap,↓eff_clear,↓eff_make,↓reduceIte,↓c_condI,↓c_seqH,↓c_blockH,↓then_nH,↓then_rH,↓then_eH,↓block_nH,↓block_rH,↓block_eH,go_sem]
  exact fin_sc h
theorem buildsR : ∀ b,BuildsR b
  | 0 => by
    intro md rows m t m' hb
    cases hb
  | b + 1 => buildR_step b (buildsR b)
theorem build7_c (rows : List Nd) (hr : RowsR rows) (t : Tr) (mt : Nat) (hb : buildR eqsS 100 (startR rows) 0 = some (t,mt)) (hm : mt ≤ 300) (K : SV → St → Prop) (st : St) (h : K (.tuple [trSV t,i64 0]) st) :
    ACalls Try.prog 7 [nodesSV rows,consSV consL] K st := by
  have hf := hr.few
  refine acalls_goV [36] Try.func7 rfl Try.results7 Try.ntmps7 ?_
  simp -implicitDefEqProofs (maxSteps := 2000000) only [↓ops_nil,↓ops_none,↓ops_some,↓kd_eff,↓dr_nil,↓dr_cons,↓d1_none,↓d1_some,↓eff_store,↓eff_box,↓eff_alloc,↓eff_build,↓eff_buildSlice,↓eff_call,↓eff_append,↓eff_copy,↓eff_cap,↓eff_clear,↓eff_make,↓reduceIte,↓c_condI,↓c_seqH,↓c_blockH,↓then_nH,↓then_rH,↓then_eH,↓block_nH,↓block_rH,↓block_eH,go_sem]
  refine right12_c rows hr _ _ ?_
  simp -implicitDefEqProofs (maxSteps := 2000000) only [↓ops_nil,↓ops_none,↓ops_some,↓kd_eff,↓dr_nil,↓dr_cons,↓d1_none,↓d1_some,↓eff_store,↓eff_box,↓eff_alloc,↓eff_build,↓eff_buildSlice,↓eff_call,↓eff_append,↓eff_copy,↓eff_cap,↓eff_clear,↓eff_make,↓reduceIte,↓c_condI,↓c_seqH,↓c_blockH,↓then_nH,↓then_rH,↓then_eH,↓block_nH,↓block_rH,↓block_eH,go_sem]
  refine awp_own 7 2 0 rfl ?_
  obtain ⟨S0,hS0⟩ : ∃ S0,st ++ [Ob.cells [i64 0,.slice .full 0 [],.slice .full 0 [],.slice .full 0 []]] = S0 := ⟨_,rfl⟩
  have hl0 : S0.length = st.length + 1 := by rw [← hS0]; simp
  rw [hS0,hl0]
  refine awp_rounds [] (fun b e s => ∃ j v,j + b = rows.length ∧ s[st.length]? = some (.cells [i64 0,.slice .full 0 [],.slice .full 0 [],.slice .full 0 []]) ∧ s[st.length + 1]? = some (.tok v) ∧ (∃ ex,s = st ++ ex) ∧ e = [.slice .imm 6 (rows.map nodeSV),.slice .imm 5 (consL.map conSV),.any,.any,.ptr st.length 0,.any,.any,.slice (.own (st.length + 1) v) 2 ((List.range j).map (rawRw rows)),i64 j,.any,.any,.any,.any,.any,.any,.any,.any,.any,.any,.any,.any,.any,.any,.any,.any,.any,.any,.any,.any,.any,.any,.any,.any,.any,.any,.any,.any,.any,.any,.any,.any,.any,.any,.any,.any,.any,.any]) (n := rows.length) ?_ ⟨0,0,by omega,(by rw [← hS0]; simp),(by rw [← hl0]; simp),(by rw [← hS0]; exact ⟨_,List.append_assoc _ _ _⟩),rfl⟩ ?_
  · simp only [List.set_cons_succ,List.set_cons_zero]
    repeat (first | exact leEnv_nil | refine leEnv_any _ ?_ | refine leEnv_same _ ?_ | refine leEnv_norm _ ?_)
  rintro b e s ⟨j,v,hjb,h4,hT,hex,rfl⟩
  by_cases hlt : j < rows.length
  · have c1 : (j : Int) < (rows.length : Int) := by omega
    have c3 : (0 : Int) ≤ (j : Int) := by omega
    have hw := wrap1 (k := j) (by omega)
    have hgt := getm nodeSV hlt
    have e8 : rawRw rows j = .agg [.slice .imm 7 [.agg ([i64 rows[j].kind,str rows[j].text,i64 rows[j].number,i64 rows[j].at_,.slice .imm 1 (rows[j].names.map fun s => .sc (.string s)),.slice .imm 6 (rows[j].kids.map nodeSV)] ++ [.slice .imm 0 []])],i64 j] := by unfold rawRw; rw [getd hlt]; rfl
    have e9 : (List.range (j + 1)).map (rawRw rows) = (List.range j).map (rawRw rows) ++ [rawRw rows j] := by rw [rangeU]
    obtain ⟨x,hx⟩ : ∃ x,rows[j] = x := ⟨_,rfl⟩
    rw [hx] at hgt e8
    have hcx : (nodeSV x).cells = [i64 x.kind,str x.text,i64 x.number,i64 x.at_,.slice .imm 1 (x.names.map fun s => .sc (.string s)),.slice .imm 6 (x.kids.map nodeSV)] := cells_node x
    have qt := tokAt_eq (v' := v) hT
    have hap := app55 (n := j + 1) (by omega)
    simp -implicitDefEqProofs (maxSteps := 2000000) only [↓ops_nil,↓ops_none,↓ops_some,↓kd_eff,↓dr_nil,↓dr_cons,↓d1_none,↓d1_some,↓eff_store,↓eff_box,↓eff_alloc,↓eff_build,↓eff_buildSlice,↓eff_call,↓eff_append,↓eff_copy,↓eff_cap,↓eff_clear,↓eff_make,↓reduceIte,↓c_condI,↓c_seqH,↓c_blockH,↓then_nH,↓then_rH,↓then_eH,↓block_nH,↓block_rH,↓block_eH,go_sem,c1,c3,hgt,cell_nd,qt,hw,hcx,List.length_map,List.length_range]
    refine ⟨hap,b - 1,[.slice .imm 6 (rows.map nodeSV),.slice .imm 5 (consL.map conSV),.any,.any,.ptr st.length 0,.any,.any,.slice (.own (st.length + 1) (v + 1)) 2 ((List.range (j + 1)).map (rawRw rows)),i64 ((j + 1 : Nat) : Int),.any,.any,.any,.any,.any,.any,.any,.any,.any,.any,.any,.any,.any,.any,.any,.any,.any,.any,.any,.any,.any,.any,.any,.any,.any,.any,.any,.any,.any,.any,.any,.any,.any,.any,.any,.any,.any,.any],by omega,?_,j + 1,v + 1,by omega,(set_get_ne (by omega)).trans h4,set_get (lt_of_get hT),ex_set hex (by omega) _,rfl⟩
    rw [e9,e8]
    simp only [List.cons_append,List.nil_append]
    repeat (first | exact leEnv_nil | refine leEnv_any _ ?_ | refine leEnv_same _ ?_ | refine leEnv_norm _ ?_)
  obtain rfl : j = rows.length := by omega
  have c1 : ((rows.length : Int) < (rows.length : Int)) = False := eq_false (by omega)
  obtain ⟨S1,hS1⟩ : ∃ S1,s ++ [Ob.cells [.slice .imm 5 (consL.map conSV),i64 0]] = S1 := ⟨_,rfl⟩
  have gB : BAt S1 s.length consL 0 := by unfold BAt; rw [← hS1]; simp
  have hbld : ∀ (K : SV → St → Prop),K (trSV t) (S1.set s.length (.cells [.slice .imm 5 (consL.map conSV),i64 mt])) → ACalls Try.prog 13 [.ptr s.length 0,.slice (.own (st.length + 1) v) 2 ((List.range rows.length).map (rawRw rows))] K S1 := fun K hK =>
    acalls_args (.cons (SVle.refl _) (.cons (raws_le rows _) .nil)) (buildsR 100 .imm (startR rows) 0 t mt hb K S1 s.length gB hK)
  simp -implicitDefEqProofs (maxSteps := 2000000) only [↓ops_nil,↓ops_none,↓ops_some,↓kd_eff,↓dr_nil,↓dr_cons,↓d1_none,↓d1_some,↓eff_store,↓eff_box,↓eff_alloc,↓eff_build,↓eff_buildSlice,↓eff_call,↓eff_append,↓eff_copy,↓eff_cap,↓eff_clear,↓eff_make,↓reduceIte,↓c_condI,↓c_seqH,↓c_blockH,↓then_nH,↓then_rH,↓then_eH,↓block_nH,↓block_rH,↓block_eH,go_sem,c1,hS1,List.length_map]
  refine hbld _ ?_
  have h4' := get_app h4 [Ob.cells [.slice .imm 5 (consL.map conSV),i64 0]]
  have hls := lt_of_get h4
  rw [hS1] at h4'
  obtain ⟨S2,hS2⟩ : ∃ S2,S1.set s.length (.cells [.slice .imm 5 (consL.map conSV),i64 mt]) = S2 := ⟨_,rfl⟩
  rw [hS2]
  have hl2 : S2.length = s.length + 1 := by rw [← hS2,List.length_set,← hS1]; simp
  have g2 : S2[s.length]? = some (.cells [.slice .imm 5 (consL.map conSV),i64 mt]) := by rw [← hS2]; exact set_get (lt_of_get gB)
  have g4 : S2[st.length]? = some (.cells [i64 0,.slice .full 0 [],.slice .full 0 [],.slice .full 0 []]) := by rw [← hS2]; exact (set_get_ne (by omega)).trans h4'
  have c2 : ¬ (300 : Int) < (mt : Int) := by omega
  obtain ⟨r',p',cs',q',rfl,ht'⟩ := trC_eq t
  obtain ⟨S3,hS3⟩ : ∃ S3,S2 ++ [Ob.cells [i64 r',.slice .imm 1 (p'.map i64),.slice .imm 6 (csL cs'),.slice .imm 4 (trL q')]] = S3 := ⟨_,rfl⟩
  have k2 := cells_facts (show S3[s.length]? = some (.cells [.slice .imm 5 (consL.map conSV),i64 mt]) by rw [← hS3]; exact get_app g2 _)
  have k4 := cells_facts (show S3[st.length]? = some (.cells [i64 0,.slice .full 0 [],.slice .full 0 [],.slice .full 0 []]) by rw [← hS3]; exact get_app g4 _)
  have k6 := cells_facts (show S3[s.length + 1]? = some (.cells [i64 r',.slice .imm 1 (p'.map i64),.slice .imm 6 (csL cs'),.slice .imm 4 (trL q')]) by rw [← hS3,← hl2]; simp)
  simp -implicitDefEqProofs (maxSteps := 2000000) only [↓ops_nil,↓ops_none,↓ops_some,↓kd_eff,↓dr_nil,↓dr_cons,↓d1_none,↓d1_some,↓eff_store,↓eff_box,↓eff_alloc,↓eff_build,↓eff_buildSlice,↓eff_call,↓eff_append,↓eff_copy,↓eff_cap,↓eff_clear,↓eff_make,↓reduceIte,↓c_condI,↓c_seqH,↓c_blockH,↓then_nH,↓then_rH,↓then_eH,↓block_nH,↓block_rH,↓block_eH,go_sem,trSV,ht',hS3,hl2,k2.1,k2.2.1,k2.2.2,k4.1,k4.2.1,k4.2.2,k6.1,k6.2.1,k6.2.2,c2]
  have := open_fin (t := .mk r' p' cs' q') (s := S3.set st.length (.cells [i64 r',.slice .imm 1 (p'.map i64),.slice .imm 6 (csL cs'),.slice .imm 4 (trL q')])) (K := K) (st := st) (by
    rw [← hS3,← hS2,← hS1]
    exact ex_set (ex_app2 (ex_set (ex_app2 hex _) (by omega) _) _) (Nat.le_refl _) _) h
  rw [ht'] at this
  exact this
end Go.Proofs
