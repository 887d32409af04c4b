/- tree.build. -/
import Derived.Test.YtcanmhognofheaaW37
set_option linter.all false
set_option maxHeartbeats 4000000
set_option linter.unusedSimpArgs false
set_option linter.unusedVariables false
set_option maxRecDepth 8000
namespace Go.Proofs
open Go Go.AL
mutual
def trC : Tr → List SV
  | .mk r p cs q => [i64 r,.slice .imm 1 (p.map i64),.slice .imm 6 (csL cs),.slice .imm 4 (trL q)]
def csL : List Cs → List SV
  | [] => []
  | .mk c n t :: l => .agg (str c :: i64 n :: trC t) :: csL l
def trL : List Tr → List SV
  | [] => []
  | t :: l => .agg (trC t) :: trL l
end
def trSV (t : Tr) : SV := .agg (trC t)
theorem csL_app : ∀ (a b : List Cs),csL (a ++ b) = csL a ++ csL b
  | [],_ => rfl
  | .mk c n t :: l,b => by simp only [List.cons_append,csL,csL_app l b]
theorem csL_len : ∀ l : List Cs,(csL l).length = l.length
  | [] => rfl
  | .mk c n t :: l => by simp only [csL,List.length_cons,csL_len l]
mutual
theorem ids_trC (n : Nat) : ∀ t : Tr,∀ y ∈ trC t,Ids n y
  | .mk r p cs q => by
    intro y hy
    simp only [trC,List.mem_cons,List.not_mem_nil,or_false] at hy
    rcases hy with rfl | rfl | rfl | rfl
    · exact .sc _
    · exact ids_i64s n .imm (.inl rfl) p
    · exact ids_slice (.inl rfl) (ids_csL n cs)
    · exact ids_slice (.inl rfl) (ids_trL n q)
theorem ids_csL (n : Nat) : ∀ l : List Cs,∀ x ∈ csL l,∀ y ∈ x.cells,Ids n y
  | [] => fun x hx => by cases hx
  | .mk c m t :: l => fun x hx y hy => by
    simp only [csL,List.mem_cons] at hx
    rcases hx with rfl | hx
    · simp only [SV.cells,List.mem_cons] at hy
      rcases hy with rfl | rfl | hy
      · exact .sc _
      · exact .sc _
      · exact ids_trC n t y hy
    · exact ids_csL n l x hx y hy
theorem ids_trL (n : Nat) : ∀ l : List Tr,∀ x ∈ trL l,∀ y ∈ x.cells,Ids n y
  | [] => fun x hx => by cases hx
  | t :: l => fun x hx y hy => by
    simp only [trL,List.mem_cons] at hx
    rcases hx with rfl | hx
    · exact ids_trC n t y hy
    · exact ids_trL n l x hx y hy
end
theorem ids_tr (n : Nat) (t : Tr) : Ids n (trSV t) := by
  unfold trSV; rw [ids_agg]; exact ids_trC n t
theorem trC_eq (t : Tr) : ∃ r p cs q,t = .mk r p cs q ∧ trC t = [i64 r,.slice .imm 1 (p.map i64),.slice .imm 6 (csL cs),.slice .imm 4 (trL q)] := by
  cases t with
  | mk r p cs q => exact ⟨r,p,cs,q,rfl,rfl⟩
theorem okK_col {E : Eqs} {rows : List Rw} {k : Nat} {hs : List Nd} (h : okK E rows k hs = true) : ColOk rows k := by
  unfold okK at h
  simp only [Bool.and_eq_true,decide_eq_true_eq,List.all_eq_true] at h
  exact ⟨h.1,fun r hr => (h.2 r hr).1.1.1,fun r hr => (h.2 r hr).1.1.2⟩
theorem okK_row {rows : List Rw} {k : Nat} {hs : List Nd} (h : okK eqsS rows k hs = true) (hne : rows ≠ []) {x : Nd} (hx : x ∈ hs) : RowsOk rows k x := by
  have hc := okK_col h
  unfold okK at h
  simp only [Bool.and_eq_true,decide_eq_true_eq,List.all_eq_true] at h
  refine ⟨h.1,hc.col,hc.few,fun r hr => (h.2 r hr).1.2,?_,fun r hr h1 h2 => ?_⟩
  · obtain ⟨r,hr⟩ := List.exists_mem_of_ne_nil _ hne
    exact ((h.2 r hr).2 x hx).1
  · have := ((h.2 r hr).2 x hx).2
    have h2 : eqsS.sm (r.cols.getD k default).pat x = true := h2
    rw [h1,h2] at this
    simpa using this
theorem okK_def {rows : List Rw} {k : Nat} {hs : List Nd} (h : okK eqsS rows k hs = true) : RowsOk rows k default := by
  have hc := okK_col h
  unfold okK at h
  simp only [Bool.and_eq_true,decide_eq_true_eq,List.all_eq_true] at h
  exact ⟨h.1,hc.col,hc.few,fun r hr => (h.2 r hr).1.2,by decide,fun r hr h1 h2 => Nat.zero_le _⟩
theorem leaf_le (r : Int) : SVle (.agg [i64 r,.slice .full 0 [],.slice .full 0 [],.slice .full 0 []]) (trSV (.mk r [] [] [])) :=
  SVle.agg (.cons (SVle.refl _) (.cons (le_nil _ _) (.cons (le_nil _ _) (.cons (le_nil _ _) .nil))))
def BuildsTo (b : Nat) : Prop := ∀ (md : AL.Mode) (rows : List Rw) (m : Nat) (t : Tr) (m' : Nat),buildE eqsS b rows m = some (t,m') → ∀ (K : SV → St → Prop) (st : St) (bid : Nat),BAt st bid consL m →
  K (trSV t) (st.set bid (.cells [.slice .imm 5 (consL.map conSV),i64 m'])) → ACalls Try.prog 11 [.ptr bid 0,.slice md 2 (rows.map rwSV)] K st
theorem ob_bc (n : Nat) (m : Int) : ObIds n (.cells [.slice .imm 5 (consL.map conSV),i64 m]) := fun j hj => by
  match j,hj with
  | 0,_ =>
    refine ids_slice (.inl rfl) fun x hx y hy => ?_
    obtain ⟨c,_,rfl⟩ := List.mem_map.1 hx
    have : Ids n (conSV c) := by rw [ids_con]; trivial
    unfold conSV at this hy
    rw [ids_agg] at this
    exact this y hy
  | 1,_ => exact .sc _
structure BL (st : St) (bid : Nat) (path : List Int) (acc : List Cs) (mj v : Nat) (s : St) : Prop where
  b : s[bid]? = some (.cells [.slice .imm 5 (consL.map conSV),i64 mj])
  r : s[st.length]? = some (.cells [i64 0,.slice .full 0 [],.slice .full 0 [],.slice .full 0 []])
  o : s[st.length + 1]? = some (.cells [i64 0,.slice .imm 1 (path.map i64),.slice (.own (st.length + 2) v) 6 (csL acc),.slice .full 0 []])
  t : s[st.length + 2]? = some (.tok v)
  ex : ∃ ex,s = st.set bid (.cells [.slice .imm 5 (consL.map conSV),i64 mj]) ++ ex
section
variable {st s : St} {bid : Nat} {path : List Int} {acc : List Cs} {mj v : Nat}
theorem BL.app (h : BL st bid path acc mj v s) (l : St) : BL st bid path acc mj v (s ++ l) := ⟨get_app h.b _,get_app h.r _,get_app h.o _,get_app h.t _,ex_app2 h.ex _⟩
theorem BL.call (h : BL st bid path acc mj v s) (hb : bid < st.length) (m' : Nat) : BL st bid path acc m' v (s.set bid (.cells [.slice .imm 5 (consL.map conSV),i64 m'])) := by
  refine ⟨set_get (lt_of_get h.b),(set_get_ne (by omega)).trans h.r,(set_get_ne (by omega)).trans h.o,(set_get_ne (by omega)).trans h.t,?_⟩
  obtain ⟨ex,rfl⟩ := h.ex
  refine ⟨ex,?_⟩
  rw [List.set_append_left _ _ (by rw [List.length_set]; exact hb),List.set_set]
theorem BL.push (h : BL st bid path acc mj v s) (hb : bid < st.length) (x : Cs) (v' : Nat) : BL st bid path (acc ++ [x]) mj v' ((s.set (st.length + 2) (.tok v')).set (st.length + 1) (.cells [i64 0,.slice .imm 1 (path.map i64),.slice (.own (st.length + 2) v') 6 (csL (acc ++ [x])),.slice .full 0 []])) := by
  refine ⟨(set_get_ne (by omega)).trans ((set_get_ne (by omega)).trans h.b),(set_get_ne (by omega)).trans ((set_get_ne (by omega)).trans h.r),set_get (by rw [List.length_set]; exact lt_of_get h.o),(set_get_ne (by omega)).trans (set_get (lt_of_get h.t)),?_⟩
  obtain ⟨ex,rfl⟩ := h.ex
  have hl : (st.set bid (.cells [.slice .imm 5 (consL.map conSV),i64 mj])).length = st.length := List.length_set
  exact ex_set (ex_set ⟨ex,rfl⟩ (by rw [hl]; omega) _) (by rw [hl]; omega) _
end
theorem fin_tree {st S : St} {bid : Nat} {o : Ob} {x : SV} {K : SV → St → Prop} (hl : (st.set bid o).length = st.length) (ho : ObIds st.length o) (hex : ∃ ex,S = st.set bid o ++ ex) (t : Tr) (hle : SVle x (trSV t)) (h : K (trSV t) (st.set bid o)) : FinW st K x S := by
  obtain ⟨ex,rfl⟩ := hex
  exact ⟨trSV t,_,ex,hle,rfl,(Mod.refl st).set bid _ ho,ids_tr _ _,h⟩
theorem build_step (b : Nat) (ih : BuildsTo b) : BuildsTo (b + 1) := by
  intro md rows m t m' hb K st bid hB h
  have hbl := lt_of_get hB
  refine acalls_goW [] Try.func11 rfl Try.results11 Try.ntmps11 ?_
  rw [buildE] at hb
  have hm : ¬ 100000 < m := fun hc => by rw [if_pos hc] at hb; cases hb
  rw [if_neg hm] at hb
  have hwm := wrap1 (k := m) (by omega)
  have q := cells_facts hB
  obtain ⟨S1,hS1⟩ : ∃ S1,st.set bid (.cells [.slice .imm 5 (consL.map conSV),i64 (m + 1 : Nat)]) ++ [Ob.cells [i64 0,.slice .full 0 [],.slice .full 0 [],.slice .full 0 []]] = S1 := ⟨_,rfl⟩
  have hl1 : (st.set bid (.cells [.slice .imm 5 (consL.map conSV),i64 (m + 1 : Nat)])).length = st.length := List.length_set
  have gB : S1[bid]? = some (.cells [.slice .imm 5 (consL.map conSV),i64 (m + 1 : Nat)]) := by rw [← hS1]; exact get_app (set_get hbl) _
  have g4 : S1[st.length]? = some (.cells [i64 0,.slice .full 0 [],.slice .full 0 [],.slice .full 0 []]) := by rw [← hS1,← hl1]; simp
  have rB := cells_facts gB
  have r4 := cells_facts g4
  have hne : bid ≠ st.length := by omega
  have hleaf : ∀ (r : Int),t = .mk r [] [] [] → m' = m + 1 →
      FinW st K (.agg [i64 r,.slice .full 0 [],.slice .full 0 [],.slice .full 0 []]) (st.set bid (.cells [.slice .imm 5 (consL.map conSV),i64 (m + 1 : Nat)]) ++ [Ob.cells [i64 r,.slice .full 0 [],.slice .full 0 [],.slice .full 0 []]]) := by
    rintro r rfl rfl
    exact ⟨trSV (.mk r [] [] []),st.set bid (.cells [.slice .imm 5 (consL.map conSV),i64 (m + 1 : Nat)]),[Ob.cells [i64 r,.slice .full 0 [],.slice .full 0 [],.slice .full 0 []]],leaf_le r,rfl,(Mod.refl st).set bid _ (ob_bc _ _),ids_tr _ _,h⟩
  rcases Decidable.em (rows = []) with he | he
  · subst he
    rw [if_pos (by rfl)] at hb
    injection hb with hb
    injection hb with h1 h2
    have ez : ((0 : Nat) : Int) = 0 := rfl
    simp -implicitDefEqProofs (maxSteps := 2000000) only [↓ops_nil,↓ops_none,↓ops_some,↓kd_eff,↓dr_nil,↓dr_cons,↓d1_none,↓d1_some,↓eff_store,↓eff_box,↓eff_alloc,↓eff_build,↓eff_buildSlice,↓eff_call,↓eff_append,↓eff_copy,↓eff_cap,↓eff_clear,↓eff_make,↓reduceIte,↓c_condI,↓c_seqH,↓c_blockH,↓then_nH,↓then_rH,↓then_eH,↓block_nH,↓block_rH,↓block_eH,go_sem,q.1,q.2.1,q.2.2,hwm,ez,List.map_nil,Int.reduceBEq]
    exact hleaf (-1) h1.symm h2.symm
  have h0 : 0 < rows.length := List.length_pos_iff.2 he
  have e1 : ((rows.length : Int) == 0) = false := by simp; omega
  have e2 : rows.isEmpty = false := by simp [he]
  rw [e2,Bool.false_or] at hb
  by_cases h3 : 300 < m + 1
  · rw [if_pos (by simpa using h3)] at hb
    injection hb with hb
    injection hb with h1 h2
    have c1 : (300 : Int) < ((m + 1 : Nat) : Int) := by omega
    simp -implicitDefEqProofs (maxSteps := 2000000) only [↓ops_nil,↓ops_none,↓ops_some,↓kd_eff,↓dr_nil,↓dr_cons,↓d1_none,↓d1_some,↓eff_store,↓eff_box,↓eff_alloc,↓eff_build,↓eff_buildSlice,↓eff_call,↓eff_append,↓eff_copy,↓eff_cap,↓eff_clear,↓eff_make,↓reduceIte,↓c_condI,↓c_seqH,↓c_blockH,↓then_nH,↓then_rH,↓then_eH,↓block_nH,↓block_rH,↓block_eH,go_sem,q.1,q.2.1,q.2.2,hwm,e1,c1,List.length_map]
    exact hleaf (-1) h1.symm h2.symm
  rw [if_neg (by simpa using h3)] at hb
  have c1 : ¬ (300 : Int) < ((m + 1 : Nat) : Int) := by omega
  rw [getd h0] at hb
  have hgt := getm rwSV h0
  have c0 : (0 : Int) < (rows.length : Int) := by omega
  obtain ⟨r,hr⟩ : ∃ r,rows[0] = r := ⟨_,rfl⟩
  rw [hr] at hb hgt
  have hfew : ¬ 100 < r.cols.length := fun hc => by rw [if_pos hc] at hb; cases hb
  rw [if_neg hfew] at hb
  have hidx : ∀ (K : SV → St → Prop) (st : St),K (i64 (idxA (fun c : Cel => !looseB c.pat) r.cols)) st → ACalls Try.prog 21 [.slice .imm 7 (r.cols.map celSV),.func (.func 22) [] []] K st := fun K st hK =>
    index21_c .imm r.cols (fun c => !looseB c.pat) 22 Try.abody22 (by omega) st (fun x _ K h => build1_c x K st h) K hK
  cases hf : r.cols.findIdx? (fun c => !looseB c.pat) with
  | none =>
    rw [hf] at hb
    injection hb with hb
    injection hb with h1 h2
    have e3 : idxA (fun c : Cel => !looseB c.pat) r.cols = -1 := by unfold idxA; rw [hf]
    have c2 : (-1 : Int) < 0 := by decide
    have ez : ((0 : Nat) : Int) ≤ 0 := by decide
    simp -implicitDefEqProofs (maxSteps := 2000000) only [↓ops_nil,↓ops_none,↓ops_some,↓kd_eff,↓dr_nil,↓dr_cons,↓d1_none,↓d1_some,↓eff_store,↓eff_box,↓eff_alloc,↓eff_build,↓eff_buildSlice,↓eff_call,↓eff_append,↓eff_copy,↓eff_cap,↓eff_clear,↓eff_make,↓reduceIte,↓c_condI,↓c_seqH,↓c_blockH,↓then_nH,↓then_rH,↓then_eH,↓block_nH,↓block_rH,↓block_eH,go_sem,q.1,q.2.1,q.2.2,hwm,e1,c1,c0,hgt,rwSV,List.length_map]
    refine hidx _ _ ?_
    rw [e3]
    simp -implicitDefEqProofs (maxSteps := 2000000) only [↓ops_nil,↓ops_none,↓ops_some,↓kd_eff,↓dr_nil,↓dr_cons,↓d1_none,↓d1_some,↓eff_store,↓eff_box,↓eff_alloc,↓eff_build,↓eff_buildSlice,↓eff_call,↓eff_append,↓eff_copy,↓eff_cap,↓eff_clear,↓eff_make,↓reduceIte,↓c_condI,↓c_seqH,↓c_blockH,↓then_nH,↓then_rH,↓then_eH,↓block_nH,↓block_rH,↓block_eH,go_sem,c2,c0,hgt,rwSV,List.length_map]
    exact hleaf r.pl h1.symm h2.symm
  | some k =>
    rw [hf] at hb
    have e3 : idxA (fun c : Cel => !looseB c.pat) r.cols = (k : Int) := by unfold idxA; rw [hf]
    have c2 : ¬ (k : Int) < 0 := by omega
    dsimp only at hb
    split at hb
    rotate_left
    · cases hb
    rename_i hok
    simp only [Bool.and_eq_true,decide_eq_true_eq,Bool.not_eq_true',List.isEmpty_eq_false_iff] at hok
    obtain ⟨⟨⟨hok,h12⟩,hhne⟩,h12'⟩ := hok
    obtain ⟨hd,hhd⟩ : ∃ hd,headsK eqsS rows k = hd := ⟨_,rfl⟩
    have hhc : ∀ (K : SV → St → Prop) (s : St) (bm : Int),BAt s bid consL bm → K (.slice .imm 6 (hd.map nodeSV)) s → ACalls Try.prog 24 [.ptr bid 0,.slice md 2 (rows.map rwSV),i64 k] K s := fun K s bm hBs hK =>
      heads24_c md rows k (okK_col hok) h12' bid bm K s hBs (by rw [hhd]; exact hK)
    rw [hhd] at hb hok h12 hhne
    have hcol := (okK_col hok).col r (by rw [← hr]; exact List.getElem_mem h0)
    rw [getd hcol] at hb
    have hgc := getm celSV hcol
    obtain ⟨c,hc⟩ : ∃ c,r.cols[k] = c := ⟨_,rfl⟩
    rw [hc] at hb hgc
    have c3 : (k : Int) < (r.cols.length : Int) := by omega
    have c4 : (0 : Int) ≤ (k : Int) := by omega
    simp -implicitDefEqProofs (maxSteps := 2000000) only [↓ops_nil,↓ops_none,↓ops_some,↓kd_eff,↓dr_nil,↓dr_cons,↓d1_none,↓d1_some,↓eff_store,↓eff_box,↓eff_alloc,↓eff_build,↓eff_buildSlice,↓eff_call,↓eff_append,↓eff_copy,↓eff_cap,↓eff_clear,↓eff_make,↓reduceIte,↓c_condI,↓c_seqH,↓c_blockH,↓then_nH,↓then_rH,↓then_eH,↓block_nH,↓block_rH,↓block_eH,go_sem,q.1,q.2.1,q.2.2,hwm,e1,c1,c0,hgt,rwSV,List.length_map]
    refine hidx _ _ ?_
    rw [e3]
    simp -implicitDefEqProofs (maxSteps := 2000000) only [↓ops_nil,↓ops_none,↓ops_some,↓kd_eff,↓dr_nil,↓dr_cons,↓d1_none,↓d1_some,↓eff_store,↓eff_box,↓eff_alloc,↓eff_build,↓eff_buildSlice,↓eff_call,↓eff_append,↓eff_copy,↓eff_cap,↓eff_clear,↓eff_make,↓reduceIte,↓c_condI,↓c_seqH,↓c_blockH,↓then_nH,↓then_rH,↓then_eH,↓block_nH,↓block_rH,↓block_eH,go_sem,c2,hS1]
    refine hhc _ _ _ gB ?_
    simp -implicitDefEqProofs (maxSteps := 2000000) only [↓ops_nil,↓ops_none,↓ops_some,↓kd_eff,↓dr_nil,↓dr_cons,↓d1_none,↓d1_some,↓eff_store,↓eff_box,↓eff_alloc,↓eff_build,↓eff_buildSlice,↓eff_call,↓eff_append,↓eff_copy,↓eff_cap,↓eff_clear,↓eff_make,↓reduceIte,↓c_condI,↓c_seqH,↓c_blockH,↓then_nH,↓then_rH,↓then_eH,↓block_nH,↓block_rH,↓block_eH,go_sem,c0,c3,c4,hgt,hgc,rwSV,celSV,List.length_map]
    obtain ⟨S2,hS2⟩ : ∃ S2,S1 ++ [Ob.cells [i64 0,.slice .imm 1 (c.path.map i64),.slice .full 0 [],.slice .full 0 []]] = S2 := ⟨_,rfl⟩
    have hl2 : S1.length = st.length + 1 := by rw [← hS1]; simp
    have g7 : S2[st.length + 1]? = some (.cells [i64 0,.slice .imm 1 (c.path.map i64),.slice .full 0 [],.slice .full 0 []]) := by rw [← hS2,← hl2]; simp
    have hv := view_ownC (st.length + 1) 2 6 0 g7 (by simp) rfl
    have hl3 : S2.length = st.length + 2 := by rw [← hS2]; simp [hl2]
    obtain ⟨S3,hS3⟩ : ∃ S3,S2.set (st.length + 1) (.cells (List.set [i64 0,.slice .imm 1 (c.path.map i64),.slice .full 0 [],.slice .full 0 []] 2 (.slice (.own S2.length 0) 6 []))) ++ [Ob.tok 0] = S3 := ⟨_,rfl⟩
    rw [hS3] at hv
    rw [hl3] at hS3
    have hL0 : BL st bid c.path [] (m + 1) 0 S3 := by
      refine ⟨?_,?_,?_,?_,?_⟩
      · rw [← hS3]; refine get_app ((set_get_ne (by omega)).trans ?_) _
        rw [← hS2]; exact get_app gB _
      · rw [← hS3]; refine get_app ((set_get_ne (by omega)).trans ?_) _
        rw [← hS2]; exact get_app g4 _
      · rw [← hS3]; exact get_app (set_get (by omega)) _
      · rw [← hS3,List.getElem?_append_right (by simp; omega)]; simp [hl3]
      · rw [← hS3,← hS2,← hS1]
        refine ex_app2 (ex_set (ex_app2 ⟨_,rfl⟩ _) (by rw [hl1]; omega) _) _
    cases hall : buildAll eqsS (buildE eqsS b) rows k hd [] (m + 1) with
    | none => rw [hall] at hb; cases hb
    | some p =>
      obtain ⟨cs,m2⟩ := p
      rw [hall] at hb
      dsimp only at hb
      rw [hS2,hl2]
      refine awp_view hv ?_
      refine awp_rounds [] (fun bb e s => ∃ j acc mj v,j + bb = hd.length ∧ acc.length = j ∧ buildAll eqsS (buildE eqsS b) rows k (hd.drop j) acc mj = some (cs,m2) ∧ BL st bid c.path acc mj v s ∧ e = [.ptr bid 0,.slice md 2 (rows.map rwSV),.any,.any,.ptr st.length 0,i64 k,.slice .imm 6 (hd.map nodeSV),.ptr (st.length + 1) 0,.any,.any,.any,.any,.any,.any,.any,.any,.any,.any,.any,.any,.any,.any,.any,.any,.any,.any,.any,.any,.any,.any,.any,.any,.any,.any,.any,.any,.any,.any,.any,.any,.any,.any,.any,.any,.any,.any,.any,.any,.any,.any,.any,.any,.any,.slice .imm 6 (hd.map nodeSV),i64 hd.length,i64 j,.any,.any,.any,.any,.any,.any,.any,.any,.any,.any,.any,.any,.any,.any,.any,.any,.any,.any,.any,.any,.any,.any,.any,.any,.any,.any,.any,.any,.any,.any,.any,.any,.any,.any,.any,.any,.any,.any,.any,.any,.any,.any,.any,.any,.any]) (n := hd.length) ?_ ⟨0,[],m + 1,0,by omega,rfl,hall,hL0,rfl⟩ ?_
      · repeat (first | exact leEnv_nil | refine leEnv_any _ ?_ | refine leEnv_same _ ?_ | refine leEnv_norm _ ?_)
      clear hv hL0 hS3 hl3 g7 hS2 hl2 r4 rB g4 gB hS1 q e1 c1
      rintro bb e s ⟨j,acc,mj,v,hj,hacc,hrest,hL,rfl⟩
      by_cases hlt : j < hd.length
      · have c5 : (j : Int) < (hd.length : Int) := by omega
        have c6 : (0 : Int) ≤ (j : Int) := by omega
        have hgh := getm nodeSV hlt
        have hw := wrap1 (k := j) (by omega)
        rw [List.drop_eq_getElem_cons hlt,buildAll] at hrest
        have hmem : hd[j] ∈ hd := List.getElem_mem hlt
        have hro := okK_row hok he hmem
        obtain ⟨x,hx⟩ : ∃ x,hd[j] = x := ⟨_,rfl⟩
        rw [hx] at hgh hrest hro
        cases hE : buildE eqsS b (underK eqsS rows k x) mj with
        | none => rw [hE] at hrest; cases hrest
        | some p =>
          obtain ⟨t',m''⟩ := p
          rw [hE] at hrest
          dsimp only at hrest
          have hL3 := hL.app [Ob.cells (nodeSV x).cells]
          obtain ⟨S3,hS3⟩ : ∃ S3,s ++ [Ob.cells (nodeSV x).cells] = S3 := ⟨_,rfl⟩
          rw [hS3] at hL3
          have g9 : S3[s.length]? = some (.cells (nodeSV x).cells) := by rw [← hS3]; simp
          have r9 := cells_facts g9
          have ro := cells_facts hL3.o
          have hL4 := hL3.call hbl m''
          have hls : st.length + 2 < s.length := lt_of_get hL.t
          simp -implicitDefEqProofs (maxSteps := 2000000) only [↓ops_nil,↓ops_none,↓ops_some,↓kd_eff,↓dr_nil,↓dr_cons,↓d1_none,↓d1_some,↓eff_store,↓eff_box,↓eff_alloc,↓eff_build,↓eff_buildSlice,↓eff_call,↓eff_append,↓eff_copy,↓eff_cap,↓eff_clear,↓eff_make,↓reduceIte,↓c_condI,↓c_seqH,↓c_blockH,↓then_nH,↓then_rH,↓then_eH,↓block_nH,↓block_rH,↓block_eH,go_sem,c5,c6,hgh,cell_nd,hS3,List.length_map]
          refine awp_drawW [] [(0,[14]),(0,[14]),(0,[14]),(0,[14]),(0,[14]),(0,[14]),(0,[]),(0,[]),(0,[]),(0,[]),(0,[]),(3,[14]),(0,[]),(0,[]),(3,[16]),(0,[]),(1,[17])] Try.mixed rfl ?_
          simp -implicitDefEqProofs (maxSteps := 2000000) only [↓ops_nil,↓ops_none,↓ops_some,↓kd_eff,↓dr_nil,↓dr_cons,↓d1_none,↓d1_some,↓eff_store,↓eff_box,↓eff_alloc,↓eff_build,↓eff_buildSlice,↓eff_call,↓eff_append,↓eff_copy,↓eff_cap,↓eff_clear,↓eff_make,↓reduceIte,↓c_condI,↓c_seqH,↓c_blockH,↓then_nH,↓then_rH,↓then_eH,↓block_nH,↓block_rH,↓block_eH,go_sem,drawW_n,drawW_0,drawW_1,drawW_2,drawW_3,pend_n,pend_c,headD_c,isStore_s,r9.1,r9.2.1,r9.2.2,ro.1,ro.2.1,ro.2.2,cell_nd]
          rw [dk_eff]
          refine ⟨.slice .imm 2 ((underK eqsS rows k x).map rwSV),?_,?_⟩
          · simp -implicitDefEqProofs (maxSteps := 2000000) only [↓ops_nil,↓ops_none,↓ops_some,↓kd_eff,↓dr_nil,↓dr_cons,↓d1_none,↓d1_some,↓eff_store,↓eff_box,↓eff_alloc,↓eff_build,↓eff_buildSlice,↓eff_call,↓eff_append,↓eff_copy,↓eff_cap,↓eff_clear,↓eff_make,↓reduceIte,↓c_condI,↓c_seqH,↓c_blockH,↓then_nH,↓then_rH,↓then_eH,↓block_nH,↓block_rH,↓block_eH,go_sem]
            refine under25_c md rows k x hro _ _ ?_
            exact ⟨⟨[],by simp⟩,ids_rws _ .imm (.inl rfl) _,.inl rfl⟩
          obtain ⟨S4,hS4⟩ : ∃ S4,S3.set bid (.cells [.slice .imm 5 (consL.map conSV),i64 m'']) = S4 := ⟨_,rfl⟩
          rw [hS4] at hL4
          have q9 := cells_facts (show S4[s.length]? = some (.cells (nodeSV x).cells) by rw [← hS4]; exact (set_get_ne (by omega)).trans g9)
          have qo := cells_facts hL4.o
          obtain ⟨r',p',cs',q',rfl,ht'⟩ := trC_eq t'
          refine ⟨.agg [i64 r',.slice .imm 1 (p'.map i64),.slice .imm 6 (csL cs'),.slice .imm 4 (trL q')],S4,?_,?_⟩
          · refine ih .imm (underK eqsS rows k x) mj _ m'' hE _ S3 bid hL3.b ?_
            exact ⟨by unfold trSV; rw [ht'],hS4⟩
          simp -implicitDefEqProofs (maxSteps := 2000000) only [↓ops_nil,↓ops_none,↓ops_some,↓kd_eff,↓dr_nil,↓dr_cons,↓d1_none,↓d1_some,↓eff_store,↓eff_box,↓eff_alloc,↓eff_build,↓eff_buildSlice,↓eff_call,↓eff_append,↓eff_copy,↓eff_cap,↓eff_clear,↓eff_make,↓reduceIte,↓c_condI,↓c_seqH,↓c_blockH,↓then_nH,↓then_rH,↓then_eH,↓block_nH,↓block_rH,↓block_eH,go_sem,drawW_n,drawW_0,drawW_1,drawW_2,drawW_3,pend_n,pend_c,headD_c,isStore_s,q9.1,q9.2.1,q9.2.2,qo.1,qo.2.1,qo.2.2,cell_nd]
          have hidc : ∀ n,∀ y ∈ [str x.text,i64 x.number,i64 r',.slice .imm 1 (p'.map i64),.slice .imm 6 (csL cs'),.slice .imm 4 (trL q')],Ids n y := fun n => by
            have := ids_csL n [.mk x.text x.number (.mk r' p' cs' q')] _ (List.mem_singleton.2 rfl)
            exact this
          rw [dk_eff]
          refine ⟨.agg [str x.text,i64 x.number,i64 r',.slice .imm 1 (p'.map i64),.slice .imm 6 (csL cs'),.slice .imm 4 (trL q')],?_,?_⟩
          · simp -implicitDefEqProofs (maxSteps := 2000000) only [↓ops_nil,↓ops_none,↓ops_some,↓kd_eff,↓dr_nil,↓dr_cons,↓d1_none,↓d1_some,↓eff_store,↓eff_box,↓eff_alloc,↓eff_build,↓eff_buildSlice,↓eff_call,↓eff_append,↓eff_copy,↓eff_cap,↓eff_clear,↓eff_make,↓reduceIte,↓c_condI,↓c_seqH,↓c_blockH,↓then_nH,↓then_rH,↓then_eH,↓block_nH,↓block_rH,↓block_eH,go_sem]
            exact ⟨⟨[],by simp⟩,by rw [ids_agg]; exact hidc _,.inl rfl⟩
          rw [dk_eff]
          refine ⟨.slice .full 6 [.agg [str x.text,i64 x.number,i64 r',.slice .imm 1 (p'.map i64),.slice .imm 6 (csL cs'),.slice .imm 4 (trL q')]],?_,?_⟩
          · simp -implicitDefEqProofs (maxSteps := 2000000) only [↓ops_nil,↓ops_none,↓ops_some,↓kd_eff,↓dr_nil,↓dr_cons,↓d1_none,↓d1_some,↓eff_store,↓eff_box,↓eff_alloc,↓eff_build,↓eff_buildSlice,↓eff_call,↓eff_append,↓eff_copy,↓eff_cap,↓eff_clear,↓eff_make,↓reduceIte,↓c_condI,↓c_seqH,↓c_blockH,↓then_nH,↓then_rH,↓then_eH,↓block_nH,↓block_rH,↓block_eH,go_sem]
            refine ⟨⟨[],by simp⟩,ids_slice (.inr rfl) fun z hz y hy => ?_,.inl rfl⟩
            simp only [List.mem_singleton] at hz
            subst hz
            exact hidc _ y hy
          have hcl : (csL acc).length = j := by rw [← hacc]; exact csL_len acc
          have hap := app30 (n := j + 1) (by omega)
          have qt := tokAt_eq (v' := v) hL4.t
          have hP := hL4.push hbl (.mk x.text x.number (.mk r' p' cs' q')) (v + 1)
          have he9 : csL (acc ++ [.mk x.text x.number (.mk r' p' cs' q')]) = csL acc ++ [.agg [str x.text,i64 x.number,i64 r',.slice .imm 1 (p'.map i64),.slice .imm 6 (csL cs'),.slice .imm 4 (trL q')]] := by rw [csL_app]; rfl
          rw [he9] at hP
          have qo2 := cells_facts (show (S4.set (st.length + 2) (.tok (v + 1)))[st.length + 1]? = _ from (set_get_ne (by omega)).trans hL4.o)
          simp -implicitDefEqProofs (maxSteps := 2000000) only [↓ops_nil,↓ops_none,↓ops_some,↓kd_eff,↓dr_nil,↓dr_cons,↓d1_none,↓d1_some,↓eff_store,↓eff_box,↓eff_alloc,↓eff_build,↓eff_buildSlice,↓eff_call,↓eff_append,↓eff_copy,↓eff_cap,↓eff_clear,↓eff_make,↓reduceIte,↓c_condI,↓c_seqH,↓c_blockH,↓then_nH,↓then_rH,↓then_eH,↓block_nH,↓block_rH,↓block_eH,go_sem,drawW_n,drawW_0,drawW_1,drawW_2,drawW_3,pend_n,pend_c,headD_c,isStore_s,qt,hcl]
          refine ⟨_,_,⟨hap,rfl,rfl⟩,?_⟩
          simp -implicitDefEqProofs (maxSteps := 2000000) only [↓ops_nil,↓ops_none,↓ops_some,↓kd_eff,↓dr_nil,↓dr_cons,↓d1_none,↓d1_some,↓eff_store,↓eff_box,↓eff_alloc,↓eff_build,↓eff_buildSlice,↓eff_call,↓eff_append,↓eff_copy,↓eff_cap,↓eff_clear,↓eff_make,↓reduceIte,↓c_condI,↓c_seqH,↓c_blockH,↓then_nH,↓then_rH,↓then_eH,↓block_nH,↓block_rH,↓block_eH,go_sem,qo2.1,qo2.2.1,qo2.2.2,hw]
          refine ⟨bb - 1,[.ptr bid 0,.slice md 2 (rows.map rwSV),.any,.any,.ptr st.length 0,i64 k,.slice .imm 6 (hd.map nodeSV),.ptr (st.length + 1) 0,.any,.any,.any,.any,.any,.any,.any,.any,.any,.any,.any,.any,.any,.any,.any,.any,.any,.any,.any,.any,.any,.any,.any,.any,.any,.any,.any,.any,.any,.any,.any,.any,.any,.any,.any,.any,.any,.any,.any,.any,.any,.any,.any,.any,.any,.slice .imm 6 (hd.map nodeSV),i64 hd.length,i64 ((j + 1 : Nat) : Int),.any,.any,.any,.any,.any,.any,.any,.any,.any,.any,.any,.any,.any,.any,.any,.any,.any,.any,.any,.any,.any,.any,.any,.any,.any,.any,.any,.any,.any,.any,.any,.any,.any,.any,.any,.any,.any,.any,.any,.any,.any,.any,.any,.any,.any],by omega,?_,j + 1,_,m'',v + 1,by omega,by simp [hacc],hrest,hP,rfl⟩
          repeat (first | exact leEnv_nil | refine leEnv_any _ ?_ | refine leEnv_same _ ?_ | refine leEnv_norm _ ?_)
      · obtain rfl : j = hd.length := by omega
        have c5 : ¬ (hd.length : Int) < (hd.length : Int) := by omega
        rw [List.drop_length,buildAll] at hrest
        injection hrest with hrest
        injection hrest with e5 e6
        subst e5; subst e6
        have hpos : 0 < hd.length := List.length_pos_iff.2 hhne
        have c6 : (0 : Int) < (hd.length : Int) := by omega
        have hgh := getm nodeSV hpos
        rw [getd hpos] at hb
        obtain ⟨x,hx⟩ : ∃ x,hd[0] = x := ⟨_,rfl⟩
        rw [hx] at hgh hb
        have hfind : ∀ (K : SV → St → Prop) (s : St),BAt s bid consL mj → K (conSV (cnOf eqsS x)) s → ACalls Try.prog 26 [.ptr bid 0,str x.text] K s := fun K s hBs hK => find26_c consL (by decide) bid mj x.text K s hBs hK
        obtain ⟨cn,hcn⟩ : ∃ cn,cnOf eqsS x = cn := ⟨_,rfl⟩
        rw [hcn] at hfind hb
        have hrestcase : ∀ q,((x.kind == 1 || decide ((hd.length : Int) < cn.many)) = q) → (if q = true then (match buildE eqsS b (othersK rows k) mj with | none => none | some (t,m3) => some (Tr.mk 0 c.path acc [t],m3)) else some (Tr.mk 0 c.path acc [],mj)) = some (t,m') := fun q hq => by rw [← hq]; exact hb
        have hyes : ((x.kind == 1 || decide ((hd.length : Int) < cn.many)) = true) → ∃ t1 m3,buildE eqsS b (othersK rows k) mj = some (t1,m3) ∧ t = .mk 0 c.path acc [t1] ∧ m' = m3 := fun hq => by
          have := hrestcase true hq
          rw [if_pos rfl] at this
          cases hE2 : buildE eqsS b (othersK rows k) mj with
          | none => rw [hE2] at this; cases this
          | some p =>
            obtain ⟨t1,m3⟩ := p
            rw [hE2] at this
            injection this with this
            injection this with f1 f2
            exact ⟨t1,m3,rfl,f1.symm,f2.symm⟩
        have hno : ((x.kind == 1 || decide ((hd.length : Int) < cn.many)) = false) → t = .mk 0 c.path acc [] ∧ m' = mj := fun hq => by
          have := hrestcase false hq
          rw [if_neg (by decide)] at this
          injection this with this
          injection this with f1 f2
          exact ⟨f1.symm,f2.symm⟩
        clear hrestcase hb hall
        cases hk1 : (x.kind == 1) with
        | true =>
          obtain ⟨t1,m3,hE2,rfl,rfl⟩ := hyes (by rw [hk1]; rfl)
          have hL' := hL.call hbl m'
          obtain ⟨r',p',cs',q',rfl,ht'⟩ := trC_eq t1
          simp -implicitDefEqProofs (maxSteps := 2000000) only [↓ops_nil,↓ops_none,↓ops_some,↓kd_eff,↓dr_nil,↓dr_cons,↓d1_none,↓d1_some,↓eff_store,↓eff_box,↓eff_alloc,↓eff_build,↓eff_buildSlice,↓eff_call,↓eff_append,↓eff_copy,↓eff_cap,↓eff_clear,↓eff_make,↓reduceIte,↓c_condI,↓c_seqH,↓c_blockH,↓then_nH,↓then_rH,↓then_eH,↓block_nH,↓block_rH,↓block_eH,go_sem,c5,c6,hgh,cell_nd,hk1,List.length_map]
          refine others27_c md rows k (okK_def hok) _ _ ?_
          simp -implicitDefEqProofs (maxSteps := 2000000) only [↓ops_nil,↓ops_none,↓ops_some,↓kd_eff,↓dr_nil,↓dr_cons,↓d1_none,↓d1_some,↓eff_store,↓eff_box,↓eff_alloc,↓eff_build,↓eff_buildSlice,↓eff_call,↓eff_append,↓eff_copy,↓eff_cap,↓eff_clear,↓eff_make,↓reduceIte,↓c_condI,↓c_seqH,↓c_blockH,↓then_nH,↓then_rH,↓then_eH,↓block_nH,↓block_rH,↓block_eH,go_sem]
          refine ih .imm (othersK rows k) mj (.mk r' p' cs' q') m' hE2 _ s bid hL.b ?_
          obtain ⟨s',hs'⟩ : ∃ s',s.set bid (.cells [.slice .imm 5 (consL.map conSV),i64 m']) = s' := ⟨_,rfl⟩
          rw [hs'] at hL' ⊢
          have ro := cells_facts hL'.o
          have rr := cells_facts (show (s'.set (st.length + 1) (.cells [i64 0,.slice .imm 1 (c.path.map i64),.slice (.own (st.length + 2) v) 6 (csL acc),.slice .full 4 [.agg [i64 r',.slice .imm 1 (p'.map i64),.slice .imm 6 (csL cs'),.slice .imm 4 (trL q')]]]))[st.length]? = _ from (set_get_ne (by omega)).trans hL'.r)
          have hlS : (st.set bid (.cells [.slice .imm 5 (consL.map conSV),i64 m'])).length = st.length := List.length_set
          simp -implicitDefEqProofs (maxSteps := 2000000) only [↓ops_nil,↓ops_none,↓ops_some,↓kd_eff,↓dr_nil,↓dr_cons,↓d1_none,↓d1_some,↓eff_store,↓eff_box,↓eff_alloc,↓eff_build,↓eff_buildSlice,↓eff_call,↓eff_append,↓eff_copy,↓eff_cap,↓eff_clear,↓eff_make,↓reduceIte,↓c_condI,↓c_seqH,↓c_blockH,↓then_nH,↓then_rH,↓then_eH,↓block_nH,↓block_rH,↓block_eH,go_sem,trSV,ht',ro.1,ro.2.1,ro.2.2,rr.1,rr.2.1,rr.2.2]
          refine fin_tree hlS (ob_bc _ _) (ex_set (ex_set hL'.ex (by rw [hlS]; omega) _) (by rw [hlS]; exact Nat.le_refl _) _) (.mk 0 c.path acc [.mk r' p' cs' q']) ?_ h
          exact SVle.agg (.cons (SVle.refl _) (.cons (SVle.refl _) (.cons (le_imm _ _ _) (.cons (le_imm _ _ _) .nil))))
        | false =>
          by_cases hmn : (hd.length : Int) < cn.many
          · obtain ⟨t1,m3,hE2,rfl,rfl⟩ := hyes (by rw [hk1,decide_eq_true hmn]; rfl)
            have hL' := hL.call hbl m'
            obtain ⟨r',p',cs',q',rfl,ht'⟩ := trC_eq t1
            simp -implicitDefEqProofs (maxSteps := 2000000) only [↓ops_nil,↓ops_none,↓ops_some,↓kd_eff,↓dr_nil,↓dr_cons,↓d1_none,↓d1_some,↓eff_store,↓eff_box,↓eff_alloc,↓eff_build,↓eff_buildSlice,↓eff_call,↓eff_append,↓eff_copy,↓eff_cap,↓eff_clear,↓eff_make,↓reduceIte,↓c_condI,↓c_seqH,↓c_blockH,↓then_nH,↓then_rH,↓then_eH,↓block_nH,↓block_rH,↓block_eH,go_sem,c5,c6,hgh,cell_nd,hk1,List.length_map]
            refine hfind _ _ hL.b ?_
            simp -implicitDefEqProofs (maxSteps := 2000000) only [↓ops_nil,↓ops_none,↓ops_some,↓kd_eff,↓dr_nil,↓dr_cons,↓d1_none,↓d1_some,↓eff_store,↓eff_box,↓eff_alloc,↓eff_build,↓eff_buildSlice,↓eff_call,↓eff_append,↓eff_copy,↓eff_cap,↓eff_clear,↓eff_make,↓reduceIte,↓c_condI,↓c_seqH,↓c_blockH,↓then_nH,↓then_rH,↓then_eH,↓block_nH,↓block_rH,↓block_eH,go_sem,conSV,hmn]
            refine others27_c md rows k (okK_def hok) _ _ ?_
            simp -implicitDefEqProofs (maxSteps := 2000000) only [↓ops_nil,↓ops_none,↓ops_some,↓kd_eff,↓dr_nil,↓dr_cons,↓d1_none,↓d1_some,↓eff_store,↓eff_box,↓eff_alloc,↓eff_build,↓eff_buildSlice,↓eff_call,↓eff_append,↓eff_copy,↓eff_cap,↓eff_clear,↓eff_make,↓reduceIte,↓c_condI,↓c_seqH,↓c_blockH,↓then_nH,↓then_rH,↓then_eH,↓block_nH,↓block_rH,↓block_eH,go_sem]
            refine ih .imm (othersK rows k) mj (.mk r' p' cs' q') m' hE2 _ s bid hL.b ?_
            obtain ⟨s',hs'⟩ : ∃ s',s.set bid (.cells [.slice .imm 5 (consL.map conSV),i64 m']) = s' := ⟨_,rfl⟩
            rw [hs'] at hL' ⊢
            have ro := cells_facts hL'.o
            have rr := cells_facts (show (s'.set (st.length + 1) (.cells [i64 0,.slice .imm 1 (c.path.map i64),.slice (.own (st.length + 2) v) 6 (csL acc),.slice .full 4 [.agg [i64 r',.slice .imm 1 (p'.map i64),.slice .imm 6 (csL cs'),.slice .imm 4 (trL q')]]]))[st.length]? = _ from (set_get_ne (by omega)).trans hL'.r)
            have hlS : (st.set bid (.cells [.slice .imm 5 (consL.map conSV),i64 m'])).length = st.length := List.length_set
            simp -implicitDefEqProofs (maxSteps := 2000000) only [↓ops_nil,↓ops_none,↓ops_some,↓kd_eff,↓dr_nil,↓dr_cons,↓d1_none,↓d1_some,↓eff_store,↓eff_box,↓eff_alloc,↓eff_build,↓eff_buildSlice,↓eff_call,↓eff_append,↓eff_copy,↓eff_cap,↓eff_clear,↓eff_make,↓reduceIte,↓c_condI,↓c_seqH,↓c_blockH,↓then_nH,↓then_rH,↓then_eH,↓block_nH,↓block_rH,↓block_eH,go_sem,trSV,ht',ro.1,ro.2.1,ro.2.2,rr.1,rr.2.1,rr.2.2]
            refine fin_tree hlS (ob_bc _ _) (ex_set (ex_set hL'.ex (by rw [hlS]; omega) _) (by rw [hlS]; exact Nat.le_refl _) _) (.mk 0 c.path acc [.mk r' p' cs' q']) ?_ h
            exact SVle.agg (.cons (SVle.refl _) (.cons (SVle.refl _) (.cons (le_imm _ _ _) (.cons (le_imm _ _ _) .nil))))
          · obtain ⟨rfl,rfl⟩ := hno (by rw [hk1,decide_eq_false hmn]; rfl)
            have ro := cells_facts hL.o
            have rr := cells_facts hL.r
            have hlS : (st.set bid (.cells [.slice .imm 5 (consL.map conSV),i64 m'])).length = st.length := List.length_set
            simp -implicitDefEqProofs (maxSteps := 2000000) only [↓ops_nil,↓ops_none,↓ops_some,↓kd_eff,↓dr_nil,↓dr_cons,↓d1_none,↓d1_some,↓eff_store,↓eff_box,↓eff_alloc,↓eff_build,↓eff_buildSlice,↓eff_call,↓eff_append,↓eff_copy,↓eff_cap,↓eff_clear,↓eff_make,↓reduceIte,↓c_condI,↓c_seqH,↓c_blockH,↓then_nH,↓then_rH,↓then_eH,↓block_nH,↓block_rH,↓block_eH,go_sem,c5,c6,hgh,cell_nd,hk1,List.length_map]
            refine hfind _ _ hL.b ?_
            simp -implicitDefEqProofs (maxSteps := 2000000) only [↓ops_nil,↓ops_none,↓ops_some,↓kd_eff,↓dr_nil,↓dr_cons,↓d1_none,↓d1_some,↓eff_store,↓eff_box,↓eff_alloc,↓eff_build,↓eff_buildSlice,↓eff_call,↓eff_append,↓eff_copy,↓eff_cap,↓eff_clear,↓eff_make,↓reduceIte,↓c_condI,↓c_seqH,↓c_blockH,↓then_nH,↓then_rH,↓then_eH,↓block_nH,↓block_rH,↓block_eH,go_sem,conSV,hmn,ro.1,ro.2.1,ro.2.2,rr.1,rr.2.1,rr.2.2]
            refine fin_tree hlS (ob_bc _ _) (ex_set hL.ex (by rw [hlS]; exact Nat.le_refl _) _) (.mk 0 c.path acc []) ?_ h
            exact SVle.agg (.cons (SVle.refl _) (.cons (SVle.refl _) (.cons (le_imm _ _ _) (.cons (le_nil _ _) .nil))))
end Go.Proofs
