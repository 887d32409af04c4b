/- tree.Build. -/
import Derived.Test.YtcanmhognofheaaW38
import Derived.Test.YtcanmhognofheaaP9
set_option linter.all false
set_option maxHeartbeats 4000000
set_option linter.unusedSimpArgs false
set_option linter.unusedVariables false
set_option maxRecDepth 8000
namespace Go.Proofs
open Go Go.AL
theorem builds : ∀ b,BuildsTo b
  | 0 => by
    intro md rows m t m' hb
    cases hb
  | b + 1 => build_step b (builds b)
def rawRw (l : List Nd) (i : Nat) : SV := .agg [.slice .imm 7 [.agg [i64 (l.getD i default).kind,str (l.getD i default).text,i64 (l.getD i default).number,i64 (l.getD i default).at_,.slice .imm 1 ((l.getD i default).names.map fun s => .sc (.string s)),.slice .imm 6 ((l.getD i default).kids.map nodeSV),.slice .imm 0 []]],i64 i]
theorem raw_le (l : List Nd) (i : Nat) : SVles (rawRw l i).cells (rwSV ⟨[⟨l.getD i default,[]⟩],i⟩).cells := by
  refine .cons (SVle.slice rfl (.cons ?_ .nil)) (.cons (SVle.refl _) .nil)
  exact .cons (SVle.refl _) (.cons (SVle.refl _) (.cons (SVle.refl _) (.cons (SVle.refl _) (.cons (SVle.refl _) (.cons (SVle.refl _) (.cons (SVle.nil _ _ _ (.inr rfl)) .nil))))))
theorem raws_le (l : List Nd) (m : AL.Mode) : SVle (.slice m 2 ((List.range l.length).map (rawRw l))) (.slice .imm 2 ((startR l).map rwSV)) := by
  refine SVle.slice (by cases m <;> rfl) ?_
  unfold startR
  rw [List.map_map]
  generalize List.range l.length = r
  induction r with
  | nil => exact .nil
  | cons i r ih => exact .cons (raw_le l i) ih
theorem open_fin {st : St} {K : SV → St → Prop} {t : Tr} {s : St} (hex : ∃ ex,s = st ++ ex) (h : K (.tuple [trSV t,i64 0]) st) : FinV st K (.tuple [.agg (trC t),i64 0]) s :=
  ⟨.tuple [trSV t,i64 0],SVle.refl _,hex,ids_tuple2 (ids_tr _ _) (.sc _),h⟩
theorem build6_c (rows : List Nd) (hr : RowsB rows) (t : Tr) (mt : Nat) (hb : buildE eqsS 100 (startR rows) 0 = some (t,mt)) (hm : mt ≤ 300) (K : SV → St → Prop) (st : St) (h : K (.tuple [trSV t,i64 0]) st) :
    ACalls Try.prog 6 [nodesSV rows,consSV consL] K st := by
  refine acalls_goV [41] Try.func6 rfl Try.results6 Try.ntmps6 ?_
  have hc : ((chkF consL 100000 rows).2 == 1) = false := by simpa using hr.chk
  have hchk : ∀ (K : SV → St → Prop) (st : St),K (.tuple [.sc (.int .i64 (chkF consL 100000 rows).1),.sc (.int .i64 (chkF consL 100000 rows).2)]) st → ACalls Try.prog 10 [nodesSV rows,consSV consL] K st := fun K st h =>
    chk_c consL low_cons hfind_cons rows (by have := hr.few; omega) hr.cnt hr.nl K st h
  simp -implicitDefEqProofs (maxSteps := 2000000) only [↓ops_nil,↓ops_none,↓ops_some,↓kd_eff,↓dr_nil,↓dr_cons,↓d1_none,↓d1_some,↓eff_store,↓eff_box,↓eff_alloc,↓eff_build,↓eff_buildSlice,↓eff_call,↓eff_append,↓eff_copy,↓eff_cap,↓eff_clear,↓eff_make,↓reduceIte,↓c_condI,↓c_seqH,↓c_blockH,↓then_nH,↓then_rH,↓then_eH,↓block_nH,↓block_rH,↓block_eH,go_sem]
  refine hchk _ _ ?_
  simp -implicitDefEqProofs (maxSteps := 2000000) only [↓ops_nil,↓ops_none,↓ops_some,↓kd_eff,↓dr_nil,↓dr_cons,↓d1_none,↓d1_some,↓eff_store,↓eff_box,↓eff_alloc,↓eff_build,↓eff_buildSlice,↓eff_call,↓eff_append,↓eff_copy,↓eff_cap,↓eff_clear,↓eff_make,↓reduceIte,↓c_condI,↓c_seqH,↓c_blockH,↓then_nH,↓then_rH,↓then_eH,↓block_nH,↓block_rH,↓block_eH,go_sem,hc,List.length_map]
  refine awp_own 8 2 0 rfl ?_
  obtain ⟨S0,hS0⟩ : ∃ S0,st ++ [Ob.cells [i64 0,.slice .full 0 [],.slice .full 0 [],.slice .full 0 []]] = S0 := ⟨_,rfl⟩
  have hl0 : S0.length = st.length + 1 := by rw [← hS0]; simp
  rw [hS0,hl0]
  refine awp_rounds [] (fun b e s => ∃ j v,j + b = rows.length ∧ s[st.length]? = some (.cells [i64 0,.slice .full 0 [],.slice .full 0 [],.slice .full 0 []]) ∧ s[st.length + 1]? = some (.tok v) ∧ (∃ ex,s = st ++ ex) ∧ e = [.any,consSV consL,.any,.any,.ptr st.length 0,.any,.any,.any,.slice (.own (st.length + 1) v) 2 ((List.range j).map (rawRw rows)),.any,.any,.any,.any,.any,.any,.any,.any,.any,.any,.any,.any,.any,.any,.slice .imm 6 (rows.map nodeSV),i64 rows.length,i64 j,.any,.any,.any,.any,.any,.any,.any,.any,.any,.any,.any,.any,.any,.any,.any,.any,.any,.any,.any,.any,.any,.any,.any,.any,.any,.any]) (n := rows.length) ?_ ⟨0,0,by omega,(by rw [← hS0]; simp),(by rw [← hl0]; simp),(by rw [← hS0]; exact ⟨_,List.append_assoc _ _ _⟩),rfl⟩ ?_
  · simp only [List.set_cons_succ,List.set_cons_zero]
    repeat (first | exact leEnv_nil | refine leEnv_any _ ?_ | refine leEnv_same _ ?_ | refine leEnv_norm _ ?_)
  rintro b e s ⟨j,v,hjb,h4,hT,hex,rfl⟩
  by_cases hlt : j < rows.length
  · have c1 : (j : Int) < (rows.length : Int) := by omega
    have c3 : (0 : Int) ≤ (j : Int) := by omega
    have hw := wrap1 (k := j) (by have := hr.few; omega)
    have hgt := getm nodeSV hlt
    have e8 : rawRw rows j = .agg [.slice .imm 7 [.agg ([i64 rows[j].kind,str rows[j].text,i64 rows[j].number,i64 rows[j].at_,.slice .imm 1 (rows[j].names.map fun s => .sc (.string s)),.slice .imm 6 (rows[j].kids.map nodeSV)] ++ [.slice .imm 0 []])],i64 j] := by unfold rawRw; rw [getd hlt]; rfl
    have e9 : (List.range (j + 1)).map (rawRw rows) = (List.range j).map (rawRw rows) ++ [rawRw rows j] := by rw [rangeU]
    obtain ⟨x,hx⟩ : ∃ x,rows[j] = x := ⟨_,rfl⟩
    rw [hx] at hgt e8
    obtain ⟨S1,hS1⟩ : ∃ S1,s ++ [Ob.cells [i64 x.kind,str x.text,i64 x.number,i64 x.at_,.slice .imm 1 (x.names.map fun s => .sc (.string s)),.slice .imm 6 (x.kids.map nodeSV)]] = S1 := ⟨_,rfl⟩
    have g10 := cells_facts (show S1[s.length]? = some (.cells [i64 x.kind,str x.text,i64 x.number,i64 x.at_,.slice .imm 1 (x.names.map fun s => .sc (.string s)),.slice .imm 6 (x.kids.map nodeSV)]) by rw [← hS1]; simp)
    have gT : S1[st.length + 1]? = some (.tok v) := by rw [← hS1]; exact get_app hT _
    have g4 := get_app h4 [Ob.cells [i64 x.kind,str x.text,i64 x.number,i64 x.at_,.slice .imm 1 (x.names.map fun s => .sc (.string s)),.slice .imm 6 (x.kids.map nodeSV)]]
    rw [hS1] at g4
    have qt := tokAt_eq (v' := v) gT
    have hap := app44 (n := j + 1) (by have := hr.few; omega)
    simp -implicitDefEqProofs (maxSteps := 2000000) only [↓ops_nil,↓ops_none,↓ops_some,↓kd_eff,↓dr_nil,↓dr_cons,↓d1_none,↓d1_some,↓eff_store,↓eff_box,↓eff_alloc,↓eff_build,↓eff_buildSlice,↓eff_call,↓eff_append,↓eff_copy,↓eff_cap,↓eff_clear,↓eff_make,↓reduceIte,↓c_condI,↓c_seqH,↓c_blockH,↓then_nH,↓then_rH,↓then_eH,↓block_nH,↓block_rH,↓block_eH,go_sem,c1,c3,hgt,cell_nd,hS1,g10.1,g10.2.1,g10.2.2,qt,hw,cells_node,List.length_map,List.length_range]
    refine ⟨hap,b - 1,[.any,consSV consL,.any,.any,.ptr st.length 0,.any,.any,.any,.slice (.own (st.length + 1) (v + 1)) 2 ((List.range (j + 1)).map (rawRw rows)),.any,.any,.any,.any,.any,.any,.any,.any,.any,.any,.any,.any,.any,.any,.slice .imm 6 (rows.map nodeSV),i64 rows.length,i64 ((j + 1 : Nat) : Int),.any,.any,.any,.any,.any,.any,.any,.any,.any,.any,.any,.any,.any,.any,.any,.any,.any,.any,.any,.any,.any,.any,.any,.any,.any,.any],by omega,?_,j + 1,v + 1,by omega,(set_get_ne (by omega)).trans g4,set_get (lt_of_get gT),(by rw [← hS1]; exact ex_set (ex_app2 hex _) (by omega) _),rfl⟩
    rw [e9,e8]
    simp only [List.cons_append,List.nil_append]
    repeat (first | exact leEnv_nil | refine leEnv_any _ ?_ | refine leEnv_same _ ?_ | refine leEnv_norm _ ?_)
  obtain rfl : j = rows.length := by omega
  have c1 : ((rows.length : Int) < (rows.length : Int)) = False := eq_false (by omega)
  obtain ⟨S1,hS1⟩ : ∃ S1,s ++ [Ob.cells [.slice .imm 5 (consL.map conSV),i64 0]] = S1 := ⟨_,rfl⟩
  have gB : BAt S1 s.length consL 0 := by unfold BAt; rw [← hS1]; simp
  have hbld : ∀ (K : SV → St → Prop),K (trSV t) (S1.set s.length (.cells [.slice .imm 5 (consL.map conSV),i64 mt])) → ACalls Try.prog 11 [.ptr s.length 0,.slice (.own (st.length + 1) v) 2 ((List.range rows.length).map (rawRw rows))] K S1 := fun K hK =>
    acalls_args (.cons (SVle.refl _) (.cons (raws_le rows _) .nil)) (builds 100 .imm (startR rows) 0 t mt hb K S1 s.length gB hK)
  simp -implicitDefEqProofs (maxSteps := 2000000) only [↓ops_nil,↓ops_none,↓ops_some,↓kd_eff,↓dr_nil,↓dr_cons,↓d1_none,↓d1_some,↓eff_store,↓eff_box,↓eff_alloc,↓eff_build,↓eff_buildSlice,↓eff_call,↓eff_append,↓eff_copy,↓eff_cap,↓eff_clear,↓eff_make,↓reduceIte,↓c_condI,↓c_seqH,↓c_blockH,↓then_nH,↓then_rH,↓then_eH,↓block_nH,↓block_rH,↓block_eH,go_sem,c1,hS1]
  refine hbld _ ?_
  have h4' := get_app h4 [Ob.cells [.slice .imm 5 (consL.map conSV),i64 0]]
  have hls := lt_of_get h4
  rw [hS1] at h4'
  obtain ⟨S2,hS2⟩ : ∃ S2,S1.set s.length (.cells [.slice .imm 5 (consL.map conSV),i64 mt]) = S2 := ⟨_,rfl⟩
  rw [hS2]
  have hl2 : S2.length = s.length + 1 := by rw [← hS2,List.length_set,← hS1]; simp
  have g2 : S2[s.length]? = some (.cells [.slice .imm 5 (consL.map conSV),i64 mt]) := by rw [← hS2]; exact set_get (lt_of_get gB)
  have g4 : S2[st.length]? = some (.cells [i64 0,.slice .full 0 [],.slice .full 0 [],.slice .full 0 []]) := by rw [← hS2]; exact (set_get_ne (by omega)).trans h4'
  have c2 : ¬ (300 : Int) < (mt : Int) := by omega
  obtain ⟨r',p',cs',q',rfl,ht'⟩ := trC_eq t
  obtain ⟨S3,hS3⟩ : ∃ S3,S2 ++ [Ob.cells [i64 r',.slice .imm 1 (p'.map i64),.slice .imm 6 (csL cs'),.slice .imm 4 (trL q')]] = S3 := ⟨_,rfl⟩
  have k2 := cells_facts (show S3[s.length]? = some (.cells [.slice .imm 5 (consL.map conSV),i64 mt]) by rw [← hS3]; exact get_app g2 _)
  have k4 := cells_facts (show S3[st.length]? = some (.cells [i64 0,.slice .full 0 [],.slice .full 0 [],.slice .full 0 []]) by rw [← hS3]; exact get_app g4 _)
  have k6 := cells_facts (show S3[s.length + 1]? = some (.cells [i64 r',.slice .imm 1 (p'.map i64),.slice .imm 6 (csL cs'),.slice .imm 4 (trL q')]) by rw [← hS3,← hl2]; simp)
  simp -implicitDefEqProofs (maxSteps := 2000000) only [↓ops_nil,↓ops_none,↓ops_some,↓kd_eff,↓dr_nil,↓dr_cons,↓d1_none,↓d1_some,↓eff_store,↓eff_box,↓eff_alloc,↓eff_build,↓eff_buildSlice,↓eff_call,↓eff_append,↓eff_copy,↓eff_cap,↓eff_clear,↓eff_make,↓reduceIte,↓c_condI,↓c_seqH,↓c_blockH,↓then_nH,↓then_rH,↓then_eH,↓block_nH,↓block_rH,↓block_eH,go_sem,trSV,ht',hS3,hl2,k2.1,k2.2.1,k2.2.2,k4.1,k4.2.1,k4.2.2,k6.1,k6.2.1,k6.2.2,c2]
  have := open_fin (t := .mk r' p' cs' q') (s := S3.set st.length (.cells [i64 r',.slice .imm 1 (p'.map i64),.slice .imm 6 (csL cs'),.slice .imm 4 (trL q')])) (K := K) (st := st) (by
    rw [← hS3,← hS2,← hS1]
    exact ex_set (ex_app2 (ex_set (ex_app2 hex _) (by omega) _) _) (Nat.le_refl _) _) h
  rw [ht'] at this
  exact this
end Go.Proofs
