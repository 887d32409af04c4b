/- The law's own functions: con, lives. -/
import Derived.Test.YtcanmhognofheaaM7
set_option linter.all false
set_option maxHeartbeats 8000000
set_option linter.unusedSimpArgs false
set_option linter.unusedVariables false
set_option maxRecDepth 8000
namespace Go.Proofs
open Go Go.AL
def nmX : Nd := .mk 4 (bs [120]) 0 0 [] []
def nmY : Nd := .mk 4 (bs [121]) 0 0 [] []
def namN : Nd := conN sC [nmX,conN sC [anyN,nmY]]
def rows1 : List Nd := [conN sT [],conN sF []]
def rows2 : List Nd := [nmX,conN sT []]
def tr1 : Tr := .mk 0 [] [.mk sF 0 (.mk 1 [] [] []),.mk sT 0 (.mk 0 [] [] [])] []
def tr2 : Tr := .mk 0 [] [] []
set_option maxRecDepth 100000 in
theorem bld1 : buildE eqsS 100 (startR rows1) 0 = some (tr1,3) := by rw [eqs_d]; kernel_rfl
set_option maxRecDepth 100000 in
theorem bld2 : buildE eqsS 100 (startR rows2) 0 = some (tr2,1) := by rw [eqs_d]; kernel_rfl
def rowsK (rows : List Nd) : Bool := decide (rows.length ≤ 20) && rows.all (fun p => (sizeD consL p).2 && decide (cnt p ≤ 100)) && decide (nlL rows ≤ 1000) && togD consL 60 (ones rows)
theorem rows_of {rows : List Nd} (h : rowsK rows = true) : RowsB rows := by
  unfold rowsK at h
  simp only [Bool.and_eq_true,List.all_eq_true,decide_eq_true_eq] at h
  obtain ⟨⟨⟨h3,h1⟩,h2⟩,ht⟩ := h
  refine ⟨h3,fun p hp => Nat.le_trans (h1 p hp).2 (by decide),by omega,?_⟩
  rw [← togF_d] at ht
  have ht := togF_up consL 60 _ ht 100000 (by decide)
  unfold chkF
  rw [if_neg (by rintro (h | h); omega; rw [sound_cons] at h; cases h),if_neg ?_,if_neg (by rw [ht]; decide)]
  · split
    · intro hc; exact absurd (show (27 : Int) = 1 from hc) (by decide)
    · split <;> decide
  · intro hc
    rw [List.any_eq_true] at hc
    obtain ⟨p,hp,hc⟩ := hc
    rw [size_d,(h1 p hp).1] at hc
    cases hc
set_option maxRecDepth 100000 in
theorem rb1 : RowsB rows1 := rows_of (by decide +kernel)
set_option maxRecDepth 100000 in
theorem rb2 : RowsB rows2 := rows_of (by decide +kernel)
def plsN : List Plc := [⟨bs [120],[0]⟩,⟨bs [121],[1,1]⟩]
theorem nam1 : namesF 3 namN = plsN := by kernel_rfl
theorem nam2 : nmOk 3 namN = true := by kernel_rfl
theorem con0_c (name : ByteArray) (K : SV → St → Prop) (st : St) (h : K (nodeSV (conN name [])) st) : ACalls Try.prog 5 [str name,.slice .full 0 []] K st :=
  acalls_args (.cons (SVle.refl _) (.cons (le_nil 0 6) .nil)) (con_c name [] K st h)
theorem con2_c (name : ByteArray) (l : List Nd) (K : SV → St → Prop) (st : St) (h : K (nodeSV (conN name l)) st) : ACalls Try.prog 5 [str name,.slice .full 6 (l.map nodeSV)] K st :=
  acalls_args (.cons (SVle.refl _) (.cons (le_imm _ _ _) .nil)) (con_c name l K st h)
theorem bld6_c (rows : List Nd) (hr : RowsB rows) (t : Tr) (mt : Nat) (hb : buildE eqsS 100 (startR rows) 0 = some (t,mt)) (hm : mt ≤ 300) (K : SV → St → Prop) (st : St) (h : K (.tuple [trSV t,i64 0]) st) :
    ACalls Try.prog 6 [.slice .full 6 (rows.map nodeSV),consSV consL] K st :=
  acalls_args (.cons (le_imm _ _ _) (.cons (SVle.refl _) .nil)) (build6_c rows hr t mt hb hm K st h)
theorem ids_nodesF (n : Nat) (l : List Nd) : Ids n (.slice .full 6 (l.map nodeSV)) := by
  have := ids_nodeL n l
  rw [nodeL_eq] at this
  exact ids_slice (.inr rfl) this
theorem nm_leC (n : Nd) (h1 : n.names = []) (h2 : n.kids = []) : ∀ i,SVle ([i64 n.kind,str n.text,i64 n.number,i64 n.at_,.slice .full 0 [],.slice .full 0 []].getD i .any) ((nodeSV n).cells.getD i .any) := by
  rw [cells_node]
  unfold strsSV nodesSV
  rw [h1,h2]
  intro i
  match i with
  | 0 => exact SVle.refl _
  | 1 => exact SVle.refl _
  | 2 => exact SVle.refl _
  | 3 => exact SVle.refl _
  | 4 => exact le_nil 0 1
  | 5 => exact le_nil 0 6
  | i + 6 => exact SVle.refl _
theorem lives9_c (K : SV → St → Prop) (st : St) (h : K (.sc (.bool true)) st) : ACalls Try.prog 9 [] K st := by
  refine acalls_go_pure [] Try.func9 rfl Try.results9 Try.ntmps9 ?_
  simp -implicitDefEqProofs (maxSteps := 2000000) only [↓ops_nil,↓ops_none,↓ops_some,↓kd_eff,↓dr_nil,↓dr_cons,↓d1_none,↓d1_some,↓eff_store,↓eff_box,↓eff_alloc,↓eff_build,↓eff_buildSlice,↓eff_call,↓eff_append,↓eff_copy,↓eff_cap,↓eff_clear,↓eff_make,↓reduceIte,↓c_condI,↓c_seqH,↓c_blockH,↓then_nH,↓then_rH,↓then_eH,↓block_nH,↓block_rH,↓block_eH,go_sem]
  refine cons_c _ _ ?_
  simp -implicitDefEqProofs (maxSteps := 2000000) only [↓ops_nil,↓ops_none,↓ops_some,↓kd_eff,↓dr_nil,↓dr_cons,↓d1_none,↓d1_some,↓eff_store,↓eff_box,↓eff_alloc,↓eff_build,↓eff_buildSlice,↓eff_call,↓eff_append,↓eff_copy,↓eff_cap,↓eff_clear,↓eff_make,↓reduceIte,↓c_condI,↓c_seqH,↓c_blockH,↓then_nH,↓then_rH,↓then_eH,↓block_nH,↓block_rH,↓block_eH,go_sem]
  refine con0_c sT _ _ ?_
  simp -implicitDefEqProofs (maxSteps := 2000000) only [↓ops_nil,↓ops_none,↓ops_some,↓kd_eff,↓dr_nil,↓dr_cons,↓d1_none,↓d1_some,↓eff_store,↓eff_box,↓eff_alloc,↓eff_build,↓eff_buildSlice,↓eff_call,↓eff_append,↓eff_copy,↓eff_cap,↓eff_clear,↓eff_make,↓reduceIte,↓c_condI,↓c_seqH,↓c_blockH,↓then_nH,↓then_rH,↓then_eH,↓block_nH,↓block_rH,↓block_eH,go_sem]
  refine con0_c sF _ _ ?_
  simp -implicitDefEqProofs (maxSteps := 2000000) only [↓ops_nil,↓ops_none,↓ops_some,↓kd_eff,↓dr_nil,↓dr_cons,↓d1_none,↓d1_some,↓eff_store,↓eff_box,↓eff_alloc,↓eff_build,↓eff_buildSlice,↓eff_call,↓eff_append,↓eff_copy,↓eff_cap,↓eff_clear,↓eff_make,↓reduceIte,↓c_condI,↓c_seqH,↓c_blockH,↓then_nH,↓then_rH,↓then_eH,↓block_nH,↓block_rH,↓block_eH,go_sem]
  refine bld6_c rows1 rb1 tr1 3 bld1 (by decide) _ _ ?_
  simp -implicitDefEqProofs (maxSteps := 2000000) only [↓ops_nil,↓ops_none,↓ops_some,↓kd_eff,↓dr_nil,↓dr_cons,↓d1_none,↓d1_some,↓eff_store,↓eff_box,↓eff_alloc,↓eff_build,↓eff_buildSlice,↓eff_call,↓eff_append,↓eff_copy,↓eff_cap,↓eff_clear,↓eff_make,↓reduceIte,↓c_condI,↓c_seqH,↓c_blockH,↓then_nH,↓then_rH,↓then_eH,↓block_nH,↓block_rH,↓block_eH,go_sem,trSV,tr1,trC,csL,trL]
  refine awp_leC st.length (l := [i64 4,str ⟨#[120]⟩,i64 0,i64 0,.slice .full 0 [],.slice .full 0 []]) (l' := (nodeSV nmX).cells) (by simp) rfl (nm_leC nmX rfl rfl) ?_
  refine awp_leC (st.length + 1) (l := [i64 4,str ⟨#[121]⟩,i64 0,i64 0,.slice .full 0 [],.slice .full 0 []]) (l' := (nodeSV nmY).cells) (by simp) rfl (nm_leC nmY rfl rfl) ?_
  obtain ⟨S2,hS2⟩ : ∃ S2,st ++ [Ob.cells (nodeSV nmX).cells,Ob.cells (nodeSV nmY).cells,Ob.cells [i64 0,.slice .imm 1 [],.slice .imm 6 [.agg [str sF,i64 0,i64 1,.slice .imm 1 [],.slice .imm 6 [],.slice .imm 4 []],.agg [str sT,i64 0,i64 0,.slice .imm 1 [],.slice .imm 6 [],.slice .imm 4 []]],.slice .imm 4 []]] = S2 := ⟨_,rfl⟩
  have hset : ((st ++ [Ob.cells [i64 4,str ⟨#[120]⟩,i64 0,i64 0,.slice .full 0 [],.slice .full 0 []],Ob.cells [i64 4,str ⟨#[121]⟩,i64 0,i64 0,.slice .full 0 [],.slice .full 0 []],Ob.cells [i64 0,.slice .imm 1 [],.slice .imm 6 [.agg [str sF,i64 0,i64 1,.slice .imm 1 [],.slice .imm 6 [],.slice .imm 4 []],.agg [str sT,i64 0,i64 0,.slice .imm 1 [],.slice .imm 6 [],.slice .imm 4 []]],.slice .imm 4 []]]).set st.length (.cells (nodeSV nmX).cells)).set (st.length + 1) (.cells (nodeSV nmY).cells) = S2 := by
    rw [← hS2,List.set_append_right _ _ (Nat.le_refl _),List.set_append_right _ _ (by omega),Nat.sub_self,show st.length + 1 - st.length = 1 by omega]; rfl
  have hset' := hset
  rw [show (Ob.cells [i64 4,str ⟨#[120]⟩,i64 0,i64 0,.slice .full 0 [],.slice .full 0 []]) = Ob.cells [i64 4,str ⟨#[120]⟩,i64 0,i64 0,.slice .full 0 [],.slice .full 0 []] from rfl] at hset'
  refine Eq.mpr (congrArg _ hset) ?_
  have hl2 : S2.length = st.length + 3 := by rw [← hS2]; simp
  have gX := cells_facts (show S2[st.length]? = some (.cells (nodeSV nmX).cells) by rw [← hS2]; simp)
  have hex2 : ∃ ex,S2 = st ++ ex := ⟨_,hS2.symm⟩
  obtain ⟨S3,hS3⟩ : ∃ S3,S2 ++ [Ob.cells [i64 0,.slice .full 0 [],.slice .full 0 [],.slice .full 0 []]] = S3 := ⟨_,rfl⟩
  have gX3 := cells_facts (show S3[st.length]? = some (.cells (nodeSV nmX).cells) by rw [← hS3,← hS2]; simp)
  have g33 := cells_facts (show S3[st.length + 3]? = some (.cells [i64 0,.slice .full 0 [],.slice .full 0 [],.slice .full 0 []]) by rw [← hS3,← hl2]; simp)
  obtain ⟨S4,hS4⟩ : ∃ S4,S3.set (st.length + 3) (.cells [i64 0,.slice .imm 1 [],.slice .imm 6 [],.slice .imm 4 []]) = S4 := ⟨_,rfl⟩
  refine awp_drawW [] [(0,[9]),(0,[9]),(0,[9]),(0,[9]),(0,[9]),(0,[9]),(0,[9]),(0,[9,11]),(3,[9]),(1,[11]),(0,[])] Try.mixed rfl ?_
  simp -implicitDefEqProofs (maxSteps := 2000000) only [↓ops_nil,↓ops_none,↓ops_some,↓kd_eff,↓dr_nil,↓dr_cons,↓d1_none,↓d1_some,↓eff_store,↓eff_box,↓eff_alloc,↓eff_build,↓eff_buildSlice,↓eff_call,↓eff_append,↓eff_copy,↓eff_cap,↓eff_clear,↓eff_make,↓reduceIte,↓c_condI,↓c_seqH,↓c_blockH,↓then_nH,↓then_rH,↓then_eH,↓block_nH,↓block_rH,↓block_eH,go_sem,drawW_n,drawW_0,drawW_2,drawW_1,drawW_3,pend_n,pend_c,headD_c,isStore_s,gX.1,gX.2.1,gX.2.2,cell_nd]
  have kC : ∀ s : St,Kept s (nodeSV (conN sT [])) (nodeSV (conN sT [])) s := fun s => ⟨⟨[],by simp⟩,ids_node _ _,.inl rfl⟩
  have kS : ∀ s : St,Kept s (.slice .full 6 [nodeSV nmX,nodeSV (conN sT [])]) (.slice .full 6 [nodeSV nmX,nodeSV (conN sT [])]) s := fun s => ⟨⟨[],by simp⟩,ids_nodesF _ [nmX,conN sT []],.inl rfl⟩
  have kT : ∀ s : St,Kept s (.tuple [.agg [i64 0,.slice .imm 1 [],.slice .imm 6 [],.slice .imm 4 []],i64 0]) (.tuple [.agg [i64 0,.slice .imm 1 [],.slice .imm 6 [],.slice .imm 4 []],i64 0]) s := fun s => ⟨⟨[],by simp⟩,ids_tuple2 (ids_tr s.length tr2) (.sc _),.inl rfl⟩
  rw [dk_eff]
  refine ⟨nodeSV (conN sT []),?_,?_⟩
  · simp -implicitDefEqProofs (maxSteps := 2000000) only [↓ops_nil,↓ops_none,↓ops_some,↓kd_eff,↓dr_nil,↓dr_cons,↓d1_none,↓d1_some,↓eff_store,↓eff_box,↓eff_alloc,↓eff_build,↓eff_buildSlice,↓eff_call,↓eff_append,↓eff_copy,↓eff_cap,↓eff_clear,↓eff_make,↓reduceIte,↓c_condI,↓c_seqH,↓c_blockH,↓then_nH,↓then_rH,↓then_eH,↓block_nH,↓block_rH,↓block_eH,go_sem]
    refine con0_c sT _ _ ?_
    exact kC _
  rw [dk_eff]
  refine ⟨.slice .full 6 [nodeSV nmX,nodeSV (conN sT [])],?_,?_⟩
  · simp -implicitDefEqProofs (maxSteps := 2000000) only [↓ops_nil,↓ops_none,↓ops_some,↓kd_eff,↓dr_nil,↓dr_cons,↓d1_none,↓d1_some,↓eff_store,↓eff_box,↓eff_alloc,↓eff_build,↓eff_buildSlice,↓eff_call,↓eff_append,↓eff_copy,↓eff_cap,↓eff_clear,↓eff_make,↓reduceIte,↓c_condI,↓c_seqH,↓c_blockH,↓then_nH,↓then_rH,↓then_eH,↓block_nH,↓block_rH,↓block_eH,go_sem]
    exact kS _
  rw [dk_eff]
  refine ⟨.tuple [.agg [i64 0,.slice .imm 1 [],.slice .imm 6 [],.slice .imm 4 []],i64 0],?_,?_⟩
  · simp -implicitDefEqProofs (maxSteps := 2000000) only [↓ops_nil,↓ops_none,↓ops_some,↓kd_eff,↓dr_nil,↓dr_cons,↓d1_none,↓d1_some,↓eff_store,↓eff_box,↓eff_alloc,↓eff_build,↓eff_buildSlice,↓eff_call,↓eff_append,↓eff_copy,↓eff_cap,↓eff_clear,↓eff_make,↓reduceIte,↓c_condI,↓c_seqH,↓c_blockH,↓then_nH,↓then_rH,↓then_eH,↓block_nH,↓block_rH,↓block_eH,go_sem]
    refine bld6_c rows2 rb2 tr2 1 bld2 (by decide) _ _ ?_
    exact kT _
  simp -implicitDefEqProofs (maxSteps := 2000000) only [↓ops_nil,↓ops_none,↓ops_some,↓kd_eff,↓dr_nil,↓dr_cons,↓d1_none,↓d1_some,↓eff_store,↓eff_box,↓eff_alloc,↓eff_build,↓eff_buildSlice,↓eff_call,↓eff_append,↓eff_copy,↓eff_cap,↓eff_clear,↓eff_make,↓reduceIte,↓c_condI,↓c_seqH,↓c_blockH,↓then_nH,↓then_rH,↓then_eH,↓block_nH,↓block_rH,↓block_eH,go_sem,drawW_n,drawW_0,drawW_2,drawW_1,drawW_3,pend_n,pend_c,headD_c,isStore_s,hl2]
  refine ⟨_,_,⟨rfl,hS3⟩,?_⟩
  simp -implicitDefEqProofs (maxSteps := 2000000) only [↓ops_nil,↓ops_none,↓ops_some,↓kd_eff,↓dr_nil,↓dr_cons,↓d1_none,↓d1_some,↓eff_store,↓eff_box,↓eff_alloc,↓eff_build,↓eff_buildSlice,↓eff_call,↓eff_append,↓eff_copy,↓eff_cap,↓eff_clear,↓eff_make,↓reduceIte,↓c_condI,↓c_seqH,↓c_blockH,↓then_nH,↓then_rH,↓then_eH,↓block_nH,↓block_rH,↓block_eH,go_sem,drawW_n,drawW_0,drawW_2,drawW_1,drawW_3,pend_n,pend_c,headD_c,isStore_s,gX3.1,gX3.2.1,gX3.2.2,g33.1,g33.2.1,g33.2.2,cell_nd,hS4]
  refine ⟨⟨?_,?_,?_⟩,?_⟩
  · rw [dk_eff]
    refine ⟨_,?_,rfl⟩
    simp -implicitDefEqProofs (maxSteps := 2000000) only [↓ops_nil,↓ops_none,↓ops_some,↓kd_eff,↓dr_nil,↓dr_cons,↓d1_none,↓d1_some,↓eff_store,↓eff_box,↓eff_alloc,↓eff_build,↓eff_buildSlice,↓eff_call,↓eff_append,↓eff_copy,↓eff_cap,↓eff_clear,↓eff_make,↓reduceIte,↓c_condI,↓c_seqH,↓c_blockH,↓then_nH,↓then_rH,↓then_eH,↓block_nH,↓block_rH,↓block_eH,go_sem]
    refine bld6_c rows2 rb2 tr2 1 bld2 (by decide) _ _ ?_
    exact kT _
  · rw [dk_eff]
    refine ⟨_,?_,rfl⟩
    simp -implicitDefEqProofs (maxSteps := 2000000) only [↓ops_nil,↓ops_none,↓ops_some,↓kd_eff,↓dr_nil,↓dr_cons,↓d1_none,↓d1_some,↓eff_store,↓eff_box,↓eff_alloc,↓eff_build,↓eff_buildSlice,↓eff_call,↓eff_append,↓eff_copy,↓eff_cap,↓eff_clear,↓eff_make,↓reduceIte,↓c_condI,↓c_seqH,↓c_blockH,↓then_nH,↓then_rH,↓then_eH,↓block_nH,↓block_rH,↓block_eH,go_sem]
    exact kS _
  · rw [dk_eff]
    refine ⟨_,?_,rfl⟩
    simp -implicitDefEqProofs (maxSteps := 2000000) only [↓ops_nil,↓ops_none,↓ops_some,↓kd_eff,↓dr_nil,↓dr_cons,↓d1_none,↓d1_some,↓eff_store,↓eff_box,↓eff_alloc,↓eff_build,↓eff_buildSlice,↓eff_call,↓eff_append,↓eff_copy,↓eff_cap,↓eff_clear,↓eff_make,↓reduceIte,↓c_condI,↓c_seqH,↓c_blockH,↓then_nH,↓then_rH,↓then_eH,↓block_nH,↓block_rH,↓block_eH,go_sem]
    refine con0_c sT _ _ ?_
    exact kC _
  have gX4 := cells_facts (show S4[st.length]? = some (.cells (nodeSV nmX).cells) by rw [← hS4]; refine (set_get_ne (by omega)).trans ?_; rw [← hS3,← hS2]; simp)
  have gY4 := cells_facts (show S4[st.length + 1]? = some (.cells (nodeSV nmY).cells) by rw [← hS4]; refine (set_get_ne (by omega)).trans ?_; rw [← hS3,← hS2]; simp)
  have gA4 := cells_facts (show S4[st.length + 2]? = some (.cells [i64 0,.slice .imm 1 [],.slice .imm 6 [.agg [str sF,i64 0,i64 1,.slice .imm 1 [],.slice .imm 6 [],.slice .imm 4 []],.agg [str sT,i64 0,i64 0,.slice .imm 1 [],.slice .imm 6 [],.slice .imm 4 []]],.slice .imm 4 []]) by rw [← hS4]; refine (set_get_ne (by omega)).trans ?_; rw [← hS3,← hS2]; simp)
  have gB4 := cells_facts (show S4[st.length + 3]? = some (.cells [i64 0,.slice .imm 1 [],.slice .imm 6 [],.slice .imm 4 []]) by rw [← hS4]; exact set_get (by rw [← hS3,List.length_append,hl2]; simp))
  have hex4 : ∃ ex,S4 = st ++ ex := by rw [← hS4,← hS3]; exact ex_set (ex_app2 hex2 _) (by omega) _
  refine awp_drawH [] Try.mixed rfl fun R hR => ?_
  simp -implicitDefEqProofs (maxSteps := 2000000) only [↓ops_nil,↓ops_none,↓ops_some,↓kd_eff,↓dr_nil,↓dr_cons,↓d1_none,↓d1_some,↓eff_store,↓eff_box,↓eff_alloc,↓eff_build,↓eff_buildSlice,↓eff_call,↓eff_append,↓eff_copy,↓eff_cap,↓eff_clear,↓eff_make,↓reduceIte,↓c_condI,↓c_seqH,↓c_blockH,↓then_nH,↓then_rH,↓then_eH,↓block_nH,↓block_rH,↓block_eH,go_sem,gX4.1,gX4.2.1,gX4.2.2,gY4.1,gY4.2.1,gY4.2.2,cell_nd]
  have hra : ∀ n,Ids n (.agg [i64 24,str ⟨#[]⟩,i64 0,i64 0,.slice .imm 0 [],.slice .imm 0 []]) := fun n => by
    rw [ids_agg]
    intro y hy
    simp only [List.mem_cons,List.not_mem_nil,or_false] at hy
    rcases hy with rfl | rfl | rfl | rfl | rfl | rfl
    · exact .sc _
    · exact .sc _
    · exact .sc _
    · exact .sc _
    · exact ids_nodes0 n
    · exact ids_nodes0 n
  rw [dk_eff]
  refine ⟨.agg [i64 24,str ⟨#[]⟩,i64 0,i64 0,.slice .imm 0 [],.slice .imm 0 []],?_,?_⟩
  · simp -implicitDefEqProofs (maxSteps := 2000000) only [↓ops_nil,↓ops_none,↓ops_some,↓kd_eff,↓dr_nil,↓dr_cons,↓d1_none,↓d1_some,↓eff_store,↓eff_box,↓eff_alloc,↓eff_build,↓eff_buildSlice,↓eff_call,↓eff_append,↓eff_copy,↓eff_cap,↓eff_clear,↓eff_make,↓reduceIte,↓c_condI,↓c_seqH,↓c_blockH,↓then_nH,↓then_rH,↓then_eH,↓block_nH,↓block_rH,↓block_eH,go_sem]
    exact ⟨⟨[],by simp⟩,hra _,.inr rfl⟩
  rw [dk_eff]
  refine ⟨.slice .full 6 [.agg [i64 24,str ⟨#[]⟩,i64 0,i64 0,.slice .imm 0 [],.slice .imm 0 []],nodeSV nmY],?_,?_⟩
  · simp -implicitDefEqProofs (maxSteps := 2000000) only [↓ops_nil,↓ops_none,↓ops_some,↓kd_eff,↓dr_nil,↓dr_cons,↓d1_none,↓d1_some,↓eff_store,↓eff_box,↓eff_alloc,↓eff_build,↓eff_buildSlice,↓eff_call,↓eff_append,↓eff_copy,↓eff_cap,↓eff_clear,↓eff_make,↓reduceIte,↓c_condI,↓c_seqH,↓c_blockH,↓then_nH,↓then_rH,↓then_eH,↓block_nH,↓block_rH,↓block_eH,go_sem]
    refine ⟨⟨[],by simp⟩,ids_slice (.inr rfl) fun x hx y hy => ?_,.inl rfl⟩
    simp only [List.mem_cons,List.not_mem_nil,or_false] at hx
    rcases hx with rfl | rfl
    · have := hra S4.length
      rw [ids_agg] at this
      exact this y hy
    · have := ids_node S4.length nmY
      rw [nodeSV_eq,ids_agg] at this
      rw [cells_node] at hy
      exact this y hy
  rw [dk_eff]
  refine ⟨nodeSV (conN sC [anyN,nmY]),?_,?_⟩
  · simp -implicitDefEqProofs (maxSteps := 2000000) only [↓ops_nil,↓ops_none,↓ops_some,↓kd_eff,↓dr_nil,↓dr_cons,↓d1_none,↓d1_some,↓eff_store,↓eff_box,↓eff_alloc,↓eff_build,↓eff_buildSlice,↓eff_call,↓eff_append,↓eff_copy,↓eff_cap,↓eff_clear,↓eff_make,↓reduceIte,↓c_condI,↓c_seqH,↓c_blockH,↓then_nH,↓then_rH,↓then_eH,↓block_nH,↓block_rH,↓block_eH,go_sem]
    refine acalls_args (.cons (SVle.refl _) (.cons ?_ .nil)) (con_c sC [anyN,nmY] _ _ ?_)
    · refine SVle.slice rfl (.cons ?_ (.cons (SVles.refl _) .nil))
      exact .cons (SVle.refl _) (.cons (SVle.refl _) (.cons (SVle.refl _) (.cons (SVle.refl _) (.cons (SVle.nil _ _ _ (.inr rfl)) (.cons (SVle.nil _ _ _ (.inr rfl)) .nil)))))
    · exact ⟨⟨[],by simp⟩,ids_node _ _,.inl rfl⟩
  rw [dk_eff]
  refine ⟨.slice .full 6 [nodeSV nmX,nodeSV (conN sC [anyN,nmY])],?_,?_⟩
  · simp -implicitDefEqProofs (maxSteps := 2000000) only [↓ops_nil,↓ops_none,↓ops_some,↓kd_eff,↓dr_nil,↓dr_cons,↓d1_none,↓d1_some,↓eff_store,↓eff_box,↓eff_alloc,↓eff_build,↓eff_buildSlice,↓eff_call,↓eff_append,↓eff_copy,↓eff_cap,↓eff_clear,↓eff_make,↓reduceIte,↓c_condI,↓c_seqH,↓c_blockH,↓then_nH,↓then_rH,↓then_eH,↓block_nH,↓block_rH,↓block_eH,go_sem]
    exact ⟨⟨[],by simp⟩,ids_nodesF _ [nmX,conN sC [anyN,nmY]],.inl rfl⟩
  rw [dk_eff]
  refine ⟨nodeSV namN,?_,?_⟩
  · simp -implicitDefEqProofs (maxSteps := 2000000) only [↓ops_nil,↓ops_none,↓ops_some,↓kd_eff,↓dr_nil,↓dr_cons,↓d1_none,↓d1_some,↓eff_store,↓eff_box,↓eff_alloc,↓eff_build,↓eff_buildSlice,↓eff_call,↓eff_append,↓eff_copy,↓eff_cap,↓eff_clear,↓eff_make,↓reduceIte,↓c_condI,↓c_seqH,↓c_blockH,↓then_nH,↓then_rH,↓then_eH,↓block_nH,↓block_rH,↓block_eH,go_sem]
    refine con2_c sC [nmX,conN sC [anyN,nmY]] _ _ ?_
    exact ⟨⟨[],by simp⟩,ids_node _ _,.inl rfl⟩
  rw [dk_eff]
  refine ⟨.slice .imm 2 (plsN.map plSV),?_,?_⟩
  · simp -implicitDefEqProofs (maxSteps := 2000000) only [↓ops_nil,↓ops_none,↓ops_some,↓kd_eff,↓dr_nil,↓dr_cons,↓d1_none,↓d1_some,↓eff_store,↓eff_box,↓eff_alloc,↓eff_build,↓eff_buildSlice,↓eff_call,↓eff_append,↓eff_copy,↓eff_cap,↓eff_clear,↓eff_make,↓reduceIte,↓c_condI,↓c_seqH,↓c_blockH,↓then_nH,↓then_rH,↓then_eH,↓block_nH,↓block_rH,↓block_eH,go_sem]
    refine names 3 namN nam2 _ _ ?_
    rw [nam1]
    exact ⟨⟨[],by simp⟩,ids_pls _ .imm (.inl rfl) _,.inl rfl⟩
  rw [hR]
  have b1 : ((2 : Nat) : Int) = 2 := rfl
  have b2 : ((2 : Int) != 2) = false := rfl
  have b3 : ((1 : Int) == 1) = true := rfl
  have b4 : ((0 : Int) == 0) = true := rfl
  have b5 : (sF.toList == (⟨#[70,97,108,115,101]⟩ : ByteArray).toList) = true := by rw [ByteArray.toList_eq,ByteArray.toList_eq]; rfl
  have b6 : ((bs [121]).toList == (⟨#[121]⟩ : ByteArray).toList) = true := by rw [ByteArray.toList_eq,ByteArray.toList_eq]; rfl
  simp -implicitDefEqProofs (maxSteps := 2000000) only [↓ops_nil,↓ops_none,↓ops_some,↓kd_eff,↓dr_nil,↓dr_cons,↓d1_none,↓d1_some,↓eff_store,↓eff_box,↓eff_alloc,↓eff_build,↓eff_buildSlice,↓eff_call,↓eff_append,↓eff_copy,↓eff_cap,↓eff_clear,↓eff_make,↓reduceIte,↓c_condI,↓c_seqH,↓c_blockH,↓then_nH,↓then_rH,↓then_eH,↓block_nH,↓block_rH,↓block_eH,go_sem,plsN,plSV,gA4.1,gA4.2.1,gA4.2.2,gB4.1,gB4.2.1,gB4.2.2,b1,b2,b3,b4,b5,b6,List.map_cons,List.map_nil,List.length_cons,List.length_nil,Nat.reduceAdd]
  exact fin_scS hex4 h
end Go.Proofs
