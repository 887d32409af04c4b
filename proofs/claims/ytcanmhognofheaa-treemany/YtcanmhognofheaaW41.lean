/- selvageref10.build. -/
import Derived.Test.YtcanmhognofheaaW38
import Derived.Test.YtcanmhognofheaaW40
set_option linter.all false
set_option maxHeartbeats 8000000
set_option linter.unusedSimpArgs false
set_option linter.unusedVariables false
set_option maxRecDepth 8000
namespace Go.Proofs
open Go Go.AL
def BuildsR (b : Nat) : Prop := ∀ (md : AL.Mode) (rows : List Rw) (m : Nat) (t : Tr) (m' : Nat),buildR eqsS b rows m = some (t,m') → ∀ (K : SV → St → Prop) (st : St) (bid : Nat),BAt st bid consL m →
  K (trSV t) (st.set bid (.cells [.slice .imm 5 (consL.map conSV),i64 m'])) → ACalls Try.prog 13 [.ptr bid 0,.slice md 2 (rows.map rwSV)] K st
theorem cn_small (n : Nd) : 0 ≤ (cnOf eqsS n).many ∧ (cnOf eqsS n).many ≤ 3 := by
  have hall : consL.all (fun c => decide (0 ≤ c.many) && decide (c.many ≤ 3)) = true := by decide
  unfold cnOf
  show 0 ≤ ((findC consL n.text).getD default).many ∧ ((findC consL n.text).getD default).many ≤ 3
  cases h : findC consL n.text with
  | none => exact ⟨by decide,by decide⟩
  | some c =>
    rw [List.all_eq_true] at hall
    have := hall c (List.mem_of_find?_eq_some h)
    simpa using this
theorem find_cn {n : Nd} (h : (eqsS.fc n.text).isSome = true) : ∃ k,k < consL.length ∧ idxA (fun c : Cn => c.name.toList == n.text.toList) consL = (k : Int) ∧ ∀ h : k < consL.length,consL[k] = cnOf eqsS n := by
  have h2 : (findC consL n.text).isSome = true := h
  unfold findC at h2
  rw [List.find?_isSome] at h2
  obtain ⟨c,hc,hn⟩ := h2
  have h3 : ∃ k,consL.findIdx? (fun c : Cn => c.name.toList == n.text.toList) = some k := by
    cases hf : consL.findIdx? (fun c : Cn => c.name.toList == n.text.toList) with
    | none =>
      rw [List.findIdx?_eq_none_iff] at hf
      rw [hf c hc] at hn
      cases hn
    | some k => exact ⟨k,rfl⟩
  obtain ⟨k,hk⟩ := h3
  have hk2 := List.findIdx?_eq_some_iff_getElem.1 hk
  obtain ⟨hlt,hy,hno⟩ := hk2
  refine ⟨k,hlt,by unfold idxA; rw [hk],fun _ => ?_⟩
  unfold cnOf
  show _ = (findC consL n.text).getD default
  have : findC consL n.text = some consL[k] := by
    unfold findC
    rw [List.find?_eq_some_iff_getElem]
    exact ⟨hy,k,hlt,rfl,fun j hj => by simpa using hno j hj⟩
  rw [this]; rfl
theorem node_def_le : SVle (.agg [i64 0,str ⟨#[]⟩,i64 0,i64 0,.slice .full 0 [],.slice .full 0 []]) (nodeSV default) :=
  SVle.agg (.cons (SVle.refl _) (.cons (SVle.refl _) (.cons (SVle.refl _) (.cons (SVle.refl _) (.cons (le_nil 0 1) (.cons (le_nil 0 6) .nil))))))
theorem BL.setF {st s : St} {bid : Nat} {path : List Int} {acc : List Cs} {mj v : Nat} (h : BL st bid path acc mj v s) (hb : bid < st.length) {id : Nat} (hid : st.length + 3 ≤ id) (o : Ob) : BL st bid path acc mj v (s.set id o) := by
  have hl : (st.set bid (.cells [.slice .imm 5 (consL.map conSV),i64 mj])).length = st.length := List.length_set
  exact ⟨(set_get_ne (by omega)).trans h.b,(set_get_ne (by omega)).trans h.r,(set_get_ne (by omega)).trans h.o,(set_get_ne (by omega)).trans h.t,ex_set h.ex (by rw [hl]; omega) _⟩
theorem buildR_step (b : Nat) (ih : BuildsR b) : BuildsR (b + 1) := by
  intro md rows m t m' hb K st bid hB h
  have hbl := lt_of_get hB
  refine acalls_goW [] Try.func13 rfl Try.results13 Try.ntmps13 ?_
  rw [buildR] at hb
  have hm : ¬ 100000 < m := fun hc => by rw [if_pos hc] at hb; cases hb
  rw [if_neg hm] at hb
  have hwm := wrap1 (k := m) (by omega)
  have q := cells_facts hB
  obtain ⟨S1,hS1⟩ : ∃ S1,st.set bid (.cells [.slice .imm 5 (consL.map conSV),i64 (m + 1 : Nat)]) ++ [Ob.cells [i64 0,.slice .full 0 [],.slice .full 0 [],.slice .full 0 []]] = S1 := ⟨_,rfl⟩
  have hl1 : (st.set bid (.cells [.slice .imm 5 (consL.map conSV),i64 (m + 1 : Nat)])).length = st.length := List.length_set
  have gB : S1[bid]? = some (.cells [.slice .imm 5 (consL.map conSV),i64 (m + 1 : Nat)]) := by rw [← hS1]; exact get_app (set_get hbl) _
  have g4 : S1[st.length]? = some (.cells [i64 0,.slice .full 0 [],.slice .full 0 [],.slice .full 0 []]) := by rw [← hS1,← hl1]; simp
  have rB := cells_facts gB
  have r4 := cells_facts g4
  have hne : bid ≠ st.length := by omega
  have hleaf : ∀ (r : Int),t = .mk r [] [] [] → m' = m + 1 →
      FinW st K (.agg [i64 r,.slice .full 0 [],.slice .full 0 [],.slice .full 0 []]) (st.set bid (.cells [.slice .imm 5 (consL.map conSV),i64 (m + 1 : Nat)]) ++ [Ob.cells [i64 r,.slice .full 0 [],.slice .full 0 [],.slice .full 0 []]]) := by
    rintro r rfl rfl
    exact ⟨trSV (.mk r [] [] []),st.set bid (.cells [.slice .imm 5 (consL.map conSV),i64 (m + 1 : Nat)]),[Ob.cells [i64 r,.slice .full 0 [],.slice .full 0 [],.slice .full 0 []]],leaf_le r,rfl,(Mod.refl st).set bid _ (ob_bc _ _),ids_tr _ _,h⟩
  rcases Decidable.em (rows = []) with he | he
  · subst he
    rw [if_pos (by rfl)] at hb
    injection hb with hb
    injection hb with h1 h2
    have ez : ((0 : Nat) : Int) = 0 := rfl
    simp -implicitDefEqProofs (maxSteps := 2000000) only [↓ops_nil,↓ops_none,↓ops_some,↓kd_eff,↓dr_nil,↓dr_cons,↓d1_none,↓d1_some,↓eff_store,↓eff_box,↓eff_alloc,↓eff_build,↓eff_buildSlice,↓eff_call,↓eff_append,↓eff_copy,↓eff_cap,↓eff_clear,↓eff_make,↓reduceIte,↓c_condI,↓c_seqH,↓c_blockH,↓then_nH,↓then_rH,↓then_eH,↓block_nH,↓block_rH,↓block_eH,go_sem,q.1,q.2.1,q.2.2,hwm,ez,List.map_nil,Int.reduceBEq]
    exact hleaf (-1) h1.symm h2.symm
  have h0 : 0 < rows.length := List.length_pos_iff.2 he
  have e1 : ((rows.length : Int) == 0) = false := by simp; omega
  have e2 : rows.isEmpty = false := by simp [he]
  rw [e2,Bool.false_or] at hb
  by_cases h3 : 300 < m + 1
  · rw [if_pos (by simpa using h3)] at hb
    injection hb with hb
    injection hb with h1 h2
    have c1 : (300 : Int) < ((m + 1 : Nat) : Int) := by omega
    simp -implicitDefEqProofs (maxSteps := 2000000) only [↓ops_nil,↓ops_none,↓ops_some,↓kd_eff,↓dr_nil,↓dr_cons,↓d1_none,↓d1_some,↓eff_store,↓eff_box,↓eff_alloc,↓eff_build,↓eff_buildSlice,↓eff_call,↓eff_append,↓eff_copy,↓eff_cap,↓eff_clear,↓eff_make,↓reduceIte,↓c_condI,↓c_seqH,↓c_blockH,↓then_nH,↓then_rH,↓then_eH,↓block_nH,↓block_rH,↓block_eH,go_sem,q.1,q.2.1,q.2.2,hwm,e1,c1,List.length_map]
    exact hleaf (-1) h1.symm h2.symm
  rw [if_neg (by simpa using h3)] at hb
  have c1 : ¬ (300 : Int) < ((m + 1 : Nat) : Int) := by omega
  rw [getd h0] at hb
  have hgt := getm rwSV h0
  have c0 : (0 : Int) < (rows.length : Int) := by omega
  obtain ⟨r,hr⟩ : ∃ r,rows[0] = r := ⟨_,rfl⟩
  rw [hr] at hb hgt
  have hfew : ¬ 100 < r.cols.length := fun hc => by rw [if_pos hc] at hb; cases hb
  rw [if_neg hfew] at hb
  simp -implicitDefEqProofs (maxSteps := 2000000) only [↓ops_nil,↓ops_none,↓ops_some,↓kd_eff,↓dr_nil,↓dr_cons,↓d1_none,↓d1_some,↓eff_store,↓eff_box,↓eff_alloc,↓eff_build,↓eff_buildSlice,↓eff_call,↓eff_append,↓eff_copy,↓eff_cap,↓eff_clear,↓eff_make,↓reduceIte,↓c_condI,↓c_seqH,↓c_blockH,↓then_nH,↓then_rH,↓then_eH,↓block_nH,↓block_rH,↓block_eH,go_sem,q.1,q.2.1,q.2.2,hwm,e1,c1,hS1,rB.1,rB.2.1,rB.2.2,r4.1,r4.2.1,r4.2.2,List.length_map]
  refine awp_rounds [] (fun bb e s => ∃ k,k + bb = r.cols.length ∧ (∀ j,j < k → ∀ x,r.cols[j]? = some x → (!looseB x.pat) = false) ∧ s = S1 ∧ e = [.ptr bid 0,.slice md 2 (rows.map rwSV),.any,.any,.ptr st.length 0,i64 k,.any,.any,.any,.any,.any,.any,.any,.any,.any,.any,.any,.any,.any,.any,.any,.any,.any,.any,.any,.any,.any,.any,.any,.any,.any,.any,.any,.any,.any,.any,.any,.any,.any,.any,.any,.any,.any,.any,.any,.any,.any,.any,.any,.any,.any,.any,.any,.any,.any,.any,.any,.any,.any,.any,.any,.any,.any,.any,.any,.any,.any,.any,.any,.any,.any,.any,.any,.any,.any,.any,.any,.any,.any,.any,.any,.any,.any,.any,.any,.any,.any,.any,.any,.any,.any,.any,.any,.any,.any,.any,.any,.any,.any,.any,.any,.any,.any,.any,.any,.any,.any,.any,.any,.any,.any,.any,.any,.any,.any,.any,.any,.any,.any,.any,.any,.any,.any,.any,.any,.any,.any,.any,.any,.any,.any,.any,.any,.any,.any,.any,.any,.any,.any,.any,.any,.any,.any,.any,.any,.any,.any,.any,.any,.any,.any,.any,.any,.any,.any,.any,.any,.any,.any,.any,.any,.any,.any,.any,.any,.any,.any,.any,.any,.any,.any,.any,.any,.any,.any,.any,.any,.any,.any,.any,.any,.any,.any,.any,.any,.any,.any,.any,.any,.any,.any,.any,.any,.any,.any,.any,.any,.any,.any,.any,.any,.any,.any,.any,.any,.any,.any,.any,.any,.any,.any,.any,.any,.any,.any,.any,.any,.any,.any,.any,.any,.any,.any,.any,.any,.any,.any,.any,.any,.any,.any,.any,.any,.any,.any,.any,.any,.any,.any,.any,.any,.any]) (n := r.cols.length) ?_ ⟨0,by omega,fun j hj => absurd hj (Nat.not_lt_zero _),rfl,rfl⟩ ?_
  · repeat (first | exact leEnv_nil | refine leEnv_any _ ?_ | refine leEnv_same _ ?_ | refine leEnv_norm _ ?_)
  rintro bb e s ⟨k,hk,hno,rfl,rfl⟩
  by_cases hlk : k < r.cols.length
  rotate_left
  · obtain rfl : k = r.cols.length := by omega
    have c2 : ((r.cols.length : Int) < (r.cols.length : Int)) = False := eq_false (by omega)
    have c3 : ((r.cols.length : Int) == (r.cols.length : Int)) = true := by simp
    have hf : r.cols.findIdx? (fun c => !looseB c.pat) = none := by
      rw [List.findIdx?_eq_none_iff]
      intro x hx
      obtain ⟨i,hi⟩ := List.getElem?_of_mem hx
      exact hno i (lt_of_get hi) x hi
    rw [hf] at hb
    injection hb with hb
    injection hb with h1 h2
    simp -implicitDefEqProofs (maxSteps := 2000000) only [↓ops_nil,↓ops_none,↓ops_some,↓kd_eff,↓dr_nil,↓dr_cons,↓d1_none,↓d1_some,↓eff_store,↓eff_box,↓eff_alloc,↓eff_build,↓eff_buildSlice,↓eff_call,↓eff_append,↓eff_copy,↓eff_cap,↓eff_clear,↓eff_make,↓reduceIte,↓c_condI,↓c_seqH,↓c_blockH,↓then_nH,↓then_rH,↓then_eH,↓block_nH,↓block_rH,↓block_eH,go_sem,c0,c2,c3,hgt,rwSV,r4.1,r4.2.1,r4.2.2,List.length_map]
    rw [← hS1,← hl1,List.set_append_right _ _ (Nat.le_refl _),Nat.sub_self]
    exact hleaf r.pl h1.symm h2.symm
  have hgc := getm celSV hlk
  obtain ⟨c,hc⟩ : ∃ c,r.cols[k] = c := ⟨_,rfl⟩
  rw [hc] at hgc
  have c3 : (k : Int) < (r.cols.length : Int) := by omega
  have c4 : (0 : Int) ≤ (k : Int) := by omega
  have hw := wrap1 (k := k) (by omega)
  rcases (Bool.eq_false_or_eq_true (looseB c.pat)) with hL | hL
  · simp -implicitDefEqProofs (maxSteps := 2000000) only [↓ops_nil,↓ops_none,↓ops_some,↓kd_eff,↓dr_nil,↓dr_cons,↓d1_none,↓d1_some,↓eff_store,↓eff_box,↓eff_alloc,↓eff_build,↓eff_buildSlice,↓eff_call,↓eff_append,↓eff_copy,↓eff_cap,↓eff_clear,↓eff_make,↓reduceIte,↓c_condI,↓c_seqH,↓c_blockH,↓then_nH,↓then_rH,↓then_eH,↓block_nH,↓block_rH,↓block_eH,go_sem,c0,c3,c4,hgt,hgc,rwSV,celSV,agg_nd,List.length_map]
    refine loose31_c _ _ _ ?_
    rw [hL]
    simp -implicitDefEqProofs (maxSteps := 2000000) only [↓ops_nil,↓ops_none,↓ops_some,↓kd_eff,↓dr_nil,↓dr_cons,↓d1_none,↓d1_some,↓eff_store,↓eff_box,↓eff_alloc,↓eff_build,↓eff_buildSlice,↓eff_call,↓eff_append,↓eff_copy,↓eff_cap,↓eff_clear,↓eff_make,↓reduceIte,↓c_condI,↓c_seqH,↓c_blockH,↓then_nH,↓then_rH,↓then_eH,↓block_nH,↓block_rH,↓block_eH,go_sem,hw]
    refine ⟨bb - 1,[.ptr bid 0,.slice md 2 (rows.map rwSV),.any,.any,.ptr st.length 0,i64 ((k + 1 : Nat) : Int),.any,.any,.any,.any,.any,.any,.any,.any,.any,.any,.any,.any,.any,.any,.any,.any,.any,.any,.any,.any,.any,.any,.any,.any,.any,.any,.any,.any,.any,.any,.any,.any,.any,.any,.any,.any,.any,.any,.any,.any,.any,.any,.any,.any,.any,.any,.any,.any,.any,.any,.any,.any,.any,.any,.any,.any,.any,.any,.any,.any,.any,.any,.any,.any,.any,.any,.any,.any,.any,.any,.any,.any,.any,.any,.any,.any,.any,.any,.any,.any,.any,.any,.any,.any,.any,.any,.any,.any,.any,.any,.any,.any,.any,.any,.any,.any,.any,.any,.any,.any,.any,.any,.any,.any,.any,.any,.any,.any,.any,.any,.any,.any,.any,.any,.any,.any,.any,.any,.any,.any,.any,.any,.any,.any,.any,.any,.any,.any,.any,.any,.any,.any,.any,.any,.any,.any,.any,.any,.any,.any,.any,.any,.any,.any,.any,.any,.any,.any,.any,.any,.any,.any,.any,.any,.any,.any,.any,.any,.any,.any,.any,.any,.any,.any,.any,.any,.any,.any,.any,.any,.any,.any,.any,.any,.any,.any,.any,.any,.any,.any,.any,.any,.any,.any,.any,.any,.any,.any,.any,.any,.any,.any,.any,.any,.any,.any,.any,.any,.any,.any,.any,.any,.any,.any,.any,.any,.any,.any,.any,.any,.any,.any,.any,.any,.any,.any,.any,.any,.any,.any,.any,.any,.any,.any,.any,.any,.any,.any,.any,.any,.any,.any,.any,.any,.any,.any],by omega,?_,k + 1,by omega,fun j hj x hx => ?_,rfl⟩
    · repeat (first | exact leEnv_nil | refine leEnv_any _ ?_ | refine leEnv_same _ ?_ | refine leEnv_norm _ ?_)
    · by_cases ee : j = k
      · subst ee
        rw [List.getElem?_eq_getElem hlk,hc] at hx
        cases hx
        rw [hL]; rfl
      · exact hno j (by omega) x hx
  have hf : r.cols.findIdx? (fun c => !looseB c.pat) = some k := by
    rw [List.findIdx?_eq_some_iff_getElem]
    exact ⟨hlk,by rw [hc,hL]; rfl,fun j hj => by rw [hno j hj _ (List.getElem?_eq_getElem (Nat.lt_trans hj hlk))]; decide⟩
  rw [hf] at hb
  dsimp only at hb
  split at hb
  rotate_left
  · cases hb
  rename_i hok
  simp only [Bool.and_eq_true] at hok
  obtain ⟨hok,hokR⟩ := hok
  rw [getd hlk,hc] at hb
  have c5 : ((k : Int) == (r.cols.length : Int)) = false := by simp; omega
  have hRall : ∀ y ∈ rows,looseB (y.cols.getD k default).pat = true ∨ ((y.cols.getD k default).pat.kind = 5 ∧ (eqsS.fc (y.cols.getD k default).pat.text).isSome = true) := fun y hy => by
    unfold okR colK at hokR
    rw [List.all_eq_true] at hokR
    have := hokR _ (List.mem_map.2 ⟨y,hy,rfl⟩)
    simpa using this
  have hrm : r ∈ rows := by rw [← hr]; exact List.getElem_mem h0
  have hr5 : c.pat.kind = 5 ∧ (eqsS.fc c.pat.text).isSome = true := by
    have := hRall r hrm
    rw [getd hlk,hc] at this
    rcases this with h | h
    · rw [hL] at h; cases h
    · exact h
  have c6 : ((c.pat.kind) == 1) = false := by rw [hr5.1]; rfl
  obtain ⟨S2,hS2⟩ : ∃ S2,s ++ [Ob.cells [i64 0,.slice .imm 1 (c.path.map i64),.slice .full 0 [],.slice .full 0 []]] = S2 := ⟨_,rfl⟩
  simp -implicitDefEqProofs (maxSteps := 2000000) only [↓ops_nil,↓ops_none,↓ops_some,↓kd_eff,↓dr_nil,↓dr_cons,↓d1_none,↓d1_some,↓eff_store,↓eff_box,↓eff_alloc,↓eff_build,↓eff_buildSlice,↓eff_call,↓eff_append,↓eff_copy,↓eff_cap,↓eff_clear,↓eff_make,↓reduceIte,↓c_condI,↓c_seqH,↓c_blockH,↓then_nH,↓then_rH,↓then_eH,↓block_nH,↓block_rH,↓block_eH,go_sem,c0,c3,c4,c5,c6,hgt,hgc,rwSV,celSV,agg_nd,List.length_map]
  refine loose31_c _ _ _ ?_
  rw [hL]
  simp -implicitDefEqProofs (maxSteps := 2000000) only [↓ops_nil,↓ops_none,↓ops_some,↓kd_eff,↓dr_nil,↓dr_cons,↓d1_none,↓d1_some,↓eff_store,↓eff_box,↓eff_alloc,↓eff_build,↓eff_buildSlice,↓eff_call,↓eff_append,↓eff_copy,↓eff_cap,↓eff_clear,↓eff_make,↓reduceIte,↓c_condI,↓c_seqH,↓c_blockH,↓then_nH,↓then_rH,↓then_eH,↓block_nH,↓block_rH,↓block_eH,go_sem,c0,c3,c4,c5,c6,hgt,hgc,rwSV,celSV,hS2,List.length_map]
  have hl2 : s.length = st.length + 1 := by rw [← hS1]; simp
  have g7 : S2[st.length + 1]? = some (.cells [i64 0,.slice .imm 1 (c.path.map i64),.slice .full 0 [],.slice .full 0 []]) := by rw [← hS2,← hl2]; simp
  have hv := view_ownC (st.length + 1) 2 6 0 g7 (by simp) rfl
  have hl3 : S2.length = st.length + 2 := by rw [← hS2]; simp [hl2]
  obtain ⟨S3,hS3⟩ : ∃ S3,S2.set (st.length + 1) (.cells (List.set [i64 0,.slice .imm 1 (c.path.map i64),.slice .full 0 [],.slice .full 0 []] 2 (.slice (.own S2.length 0) 6 []))) ++ [Ob.tok 0] = S3 := ⟨_,rfl⟩
  rw [hS3] at hv
  rw [hl3] at hS3
  have hL0 : BL st bid c.path [] (m + 1) 0 S3 := by
    refine ⟨?_,?_,?_,?_,?_⟩
    · rw [← hS3]; refine get_app ((set_get_ne (by omega)).trans ?_) _
      rw [← hS2]; exact get_app gB _
    · rw [← hS3]; refine get_app ((set_get_ne (by omega)).trans ?_) _
      rw [← hS2]; exact get_app g4 _
    · rw [← hS3]; exact get_app (set_get (by omega)) _
    · rw [← hS3,List.getElem?_append_right (by simp; omega)]; simp [hl3]
    · rw [← hS3,← hS2,← hS1]
      refine ex_app2 (ex_set (ex_app2 ⟨_,rfl⟩ _) (by rw [hl1]; omega) _) _
  have hl4 : S3.length = st.length + 3 := by rw [← hS3]; simp [hl3]
  obtain ⟨kf,hkf,hidx,hget⟩ := find_cn hr5.2
  have hgf := getm conSV hkf
  rw [hget] at hgf
  obtain ⟨fst,hfst⟩ : ∃ fst,cnOf eqsS c.pat = fst := ⟨_,rfl⟩
  have hsm := cn_small c.pat
  rw [hfst] at hgf hb hsm
  have ckf : (kf : Int) < (consL.length : Int) := by omega
  have ckf0 : (0 : Int) ≤ (kf : Int) := by omega
  have hfind : ∀ (K : SV → St → Prop) (st : St),K (i64 kf) st → ACalls Try.prog 33 [.slice .imm 5 (consL.map conSV),str c.pat.text] K st := fun K st hK => find33_c .imm consL c.pat.text (by decide) K st (by rw [hidx]; exact hK)
  have b0 := cells_facts hL0.b
  have hL1 := hL0.app [Ob.cells [str ⟨#[]⟩,str ⟨#[]⟩,i64 0,i64 0,i64 0]]
  obtain ⟨S4,hS4⟩ : ∃ S4,S3 ++ [Ob.cells [str ⟨#[]⟩,str ⟨#[]⟩,i64 0,i64 0,i64 0]] = S4 := ⟨_,rfl⟩
  rw [hS4] at hL1
  have b1 := cells_facts hL1.b
  have g11 := cells_facts (show S4[st.length + 3]? = some (.cells [str ⟨#[]⟩,str ⟨#[]⟩,i64 0,i64 0,i64 0]) by rw [← hS4,← hl4]; simp)
  rw [hl2]
  refine awp_view hv ?_
  refine awp_drawW [] [(0,[21]),(0,[21]),(0,[21]),(0,[21]),(0,[21]),(0,[21]),(0,[21]),(0,[21]),(0,[21]),(0,[21]),(0,[21]),(0,[21]),(0,[21]),(0,[21]),(0,[21]),(0,[21]),(0,[21]),(0,[21]),(0,[21]),(0,[21]),(3,[21]),(1,[22])] Try.mixed rfl ?_
  simp -implicitDefEqProofs (maxSteps := 2000000) only [↓ops_nil,↓ops_none,↓ops_some,↓kd_eff,↓dr_nil,↓dr_cons,↓d1_none,↓d1_some,↓eff_store,↓eff_box,↓eff_alloc,↓eff_build,↓eff_buildSlice,↓eff_call,↓eff_append,↓eff_copy,↓eff_cap,↓eff_clear,↓eff_make,↓reduceIte,↓c_condI,↓c_seqH,↓c_blockH,↓then_nH,↓then_rH,↓then_eH,↓block_nH,↓block_rH,↓block_eH,go_sem,drawW_n,drawW_0,drawW_2,drawW_1,drawW_3,pend_n,pend_c,headD_c,isStore_s,b0.1,b0.2.1,b0.2.2,c0,c3,c4,hgt,hgc,rwSV,celSV,cell_nd,List.length_map]
  rw [dk_eff]
  refine ⟨i64 kf,?_,?_⟩
  · simp -implicitDefEqProofs (maxSteps := 2000000) only [↓ops_nil,↓ops_none,↓ops_some,↓kd_eff,↓dr_nil,↓dr_cons,↓d1_none,↓d1_some,↓eff_store,↓eff_box,↓eff_alloc,↓eff_build,↓eff_buildSlice,↓eff_call,↓eff_append,↓eff_copy,↓eff_cap,↓eff_clear,↓eff_make,↓reduceIte,↓c_condI,↓c_seqH,↓c_blockH,↓then_nH,↓then_rH,↓then_eH,↓block_nH,↓block_rH,↓block_eH,go_sem]
    refine hfind _ _ ?_
    exact kept_sc
  simp -implicitDefEqProofs (maxSteps := 2000000) only [↓ops_nil,↓ops_none,↓ops_some,↓kd_eff,↓dr_nil,↓dr_cons,↓d1_none,↓d1_some,↓eff_store,↓eff_box,↓eff_alloc,↓eff_build,↓eff_buildSlice,↓eff_call,↓eff_append,↓eff_copy,↓eff_cap,↓eff_clear,↓eff_make,↓reduceIte,↓c_condI,↓c_seqH,↓c_blockH,↓then_nH,↓then_rH,↓then_eH,↓block_nH,↓block_rH,↓block_eH,go_sem,drawW_n,drawW_0,drawW_2,drawW_1,drawW_3,pend_n,pend_c,headD_c,isStore_s,b0.1,b0.2.1,b0.2.2,c0,c3,c4,ckf,ckf0,hgf,hl4,List.length_map]
  refine ⟨_,_,⟨rfl,hS4⟩,?_⟩
  simp -implicitDefEqProofs (maxSteps := 2000000) only [↓ops_nil,↓ops_none,↓ops_some,↓kd_eff,↓dr_nil,↓dr_cons,↓d1_none,↓d1_some,↓eff_store,↓eff_box,↓eff_alloc,↓eff_build,↓eff_buildSlice,↓eff_call,↓eff_append,↓eff_copy,↓eff_cap,↓eff_clear,↓eff_make,↓reduceIte,↓c_condI,↓c_seqH,↓c_blockH,↓then_nH,↓then_rH,↓then_eH,↓block_nH,↓block_rH,↓block_eH,go_sem,drawW_n,drawW_0,drawW_2,drawW_1,drawW_3,pend_n,pend_c,headD_c,isStore_s,b1.1,b1.2.1,b1.2.2,g11.1,g11.2.1,g11.2.2,c0,c3,c4,ckf,ckf0,hgf,hgt,hgc,rwSV,celSV,conSV,List.length_map]
  refine ⟨by
    rw [dk_eff]
    refine ⟨i64 kf,?_,rfl⟩
    simp -implicitDefEqProofs (maxSteps := 2000000) only [↓ops_nil,↓ops_none,↓ops_some,↓kd_eff,↓dr_nil,↓dr_cons,↓d1_none,↓d1_some,↓eff_store,↓eff_box,↓eff_alloc,↓eff_build,↓eff_buildSlice,↓eff_call,↓eff_append,↓eff_copy,↓eff_cap,↓eff_clear,↓eff_make,↓reduceIte,↓c_condI,↓c_seqH,↓c_blockH,↓then_nH,↓then_rH,↓then_eH,↓block_nH,↓block_rH,↓block_eH,go_sem]
    refine hfind _ _ ?_
    exact kept_sc,?_⟩
  have hL5 := hL1.setF hbl (id := st.length + 3) (Nat.le_refl _) (.cells [str fst.name,str fst.of_,i64 fst.tag,i64 fst.arity,i64 fst.many])
  obtain ⟨S5,hS5⟩ : ∃ S5,S4.set (st.length + 3) (.cells [str fst.name,str fst.of_,i64 fst.tag,i64 fst.arity,i64 fst.many]) = S5 := ⟨_,rfl⟩
  rw [hS5] at hL5 ⊢
  have hF5 : S5[st.length + 3]? = some (.cells [str fst.name,str fst.of_,i64 fst.tag,i64 fst.arity,i64 fst.many]) := by rw [← hS5]; exact set_get (by rw [← hS4]; simp; omega)
  obtain ⟨n,hn⟩ : ∃ n : Nat,fst.many = (n : Int) := ⟨fst.many.toNat,by omega⟩
  have hn3 : n ≤ 3 := by omega
  rw [hn] at hb
  have htn : ((n : Int)).toNat = n := by omega
  rw [htn] at hb
  cases hall : tagsR eqsS (buildR eqsS b) rows k n 0 [] (m + 1) with
  | none => rw [hall] at hb; cases hb
  | some p =>
    obtain ⟨cs,m2⟩ := p
    rw [hall] at hb
    dsimp only at hb
    refine awp_rounds [] (fun bb e s => ∃ (tag : Nat) (acc : List Cs) (mj v : Nat),tag + bb = n ∧ acc.length ≤ tag ∧ tagsR eqsS (buildR eqsS b) rows k bb (tag : Int) acc mj = some (cs,m2) ∧ BL st bid c.path acc mj v s ∧ s[st.length + 3]? = some (.cells [str fst.name,str fst.of_,i64 fst.tag,i64 fst.arity,i64 fst.many]) ∧ e = [.ptr bid 0,.slice md 2 (rows.map rwSV),.any,.any,.ptr st.length 0,i64 k,.ptr (st.length + 1) 0,.any,.any,.any,.any,.ptr (st.length + 3) 0,i64 tag,.any,.any,.any,.any,.any,.any,.any,.any,.any,.any,.any,.any,.any,.any,.any,.any,.any,.any,.any,.any,.any,.any,.any,.any,.any,.any,.any,.any,.any,.any,.any,.any,.any,.any,.any,.any,.any,.any,.any,.any,.any,.any,.any,.any,.any,.any,.any,.any,.any,.any,.any,.any,.any,.any,.any,.any,.any,.any,.any,.any,.any,.any,.any,.any,.any,.any,.any,.any,.any,.any,.any,.any,.any,.any,.any,.any,.any,.any,.any,.any,.any,.any,.any,.any,.any,.any,.any,.any,.any,.any,.any,.any,.any,.any,.any,.any,.any,.any,.any,.any,.any,.any,.any,.any,.any,.any,.any,.any,.any,.any,.any,.any,.any,.any,.any,.any,.any,.any,.any,.any,.any,.any,.any,.any,.any,.any,.any,.any,.any,.any,.any,.any,.any,.any,.any,.any,.any,.any,.any,.any,.any,.any,.any,.any,.any,.any,.any,.any,.any,.any,.any,.any,.any,.any,.any,.any,.any,.any,.any,.any,.any,.any,.any,.any,.any,.any,.any,.any,.any,.any,.any,.any,.any,.any,.any,.any,.any,.any,.any,.any,.any,.any,.any,.any,.any,.any,.any,.any,.any,.any,.any,.any,.any,.any,.any,.any,.any,.any,.any,.any,.any,.any,.any,.any,.any,.any,.any,.any,.any,.any,.any,.any,.any,.any,.any,.any,.any,.any,.any,.any,.any,.any,.any,.any,.any,.any,.any,.any,.any]) (n := n) ?_ ⟨0,[],m + 1,0,by omega,Nat.le_refl _,hall,hL5,hF5,rfl⟩ ?_
    · repeat (first | exact leEnv_nil | refine leEnv_any _ ?_ | refine leEnv_same _ ?_ | refine leEnv_norm _ ?_)
    clear hv hL0 hL1 hL5 hF5 hS5 hS4 hS3 hS2 hl3 hl4 g7 r4 rB g4 gB hS1 q e1 c1 b0 b1 g11 hl2
    rintro bb e s ⟨tag,acc,mj,v,htb,hacc,hrest,hL,hF,rfl⟩
    have rF := cells_facts hF
    by_cases hlt : tag < n
    · obtain ⟨bb',rfl⟩ : ∃ bb',bb = bb' + 1 := ⟨bb - 1,by omega⟩
      have d1 : (tag : Int) < (n : Int) := by omega
      have hwt := wrap1 (k := tag) (by omega)
      rw [tagsR] at hrest
      simp -implicitDefEqProofs (maxSteps := 2000000) only [↓ops_nil,↓ops_none,↓ops_some,↓kd_eff,↓dr_nil,↓dr_cons,↓d1_none,↓d1_some,↓eff_store,↓eff_box,↓eff_alloc,↓eff_build,↓eff_buildSlice,↓eff_call,↓eff_append,↓eff_copy,↓eff_cap,↓eff_clear,↓eff_make,↓reduceIte,↓c_condI,↓c_seqH,↓c_blockH,↓then_nH,↓then_rH,↓then_eH,↓block_nH,↓block_rH,↓block_eH,go_sem,rF.1,rF.2.1,rF.2.2,hn,d1]
      refine awp_rounds [] (fun b3 e s => ∃ (i : Nat),i + b3 = rows.length ∧ (∀ j,j < i → ∀ y,(rows.map fun r => (r.cols.getD k default).pat)[j]? = some y → (!looseB y && (cnOf eqsS y).tag == (tag : Int)) = false) ∧ BL st bid c.path acc mj v s ∧ s[st.length + 3]? = some (.cells [str fst.name,str fst.of_,i64 fst.tag,i64 fst.arity,i64 fst.many]) ∧ e = [.ptr bid 0,.slice md 2 (rows.map rwSV),.any,.any,.ptr st.length 0,i64 k,.ptr (st.length + 1) 0,.any,.any,.any,.any,.ptr (st.length + 3) 0,i64 tag,i64 i,.any,.any,.any,.any,.any,.any,.any,.any,.any,.any,.any,.any,.any,.any,.any,.any,.any,.any,.any,.any,.any,.any,.any,.any,.any,.any,.any,.any,.any,.any,.any,.any,.any,.any,.any,.any,.any,.any,.any,.any,.any,.any,.any,.any,.any,.any,.any,.any,.any,.any,.any,.any,.any,.any,.any,.any,.any,.any,.any,.any,.any,.any,.any,.any,.any,.any,.any,.any,.any,.any,.any,.any,.any,.any,.any,.any,.any,.any,.any,.any,.any,.any,.any,.any,.any,.any,.any,.any,.any,.any,.any,.any,.any,.any,.any,.any,.any,.any,.any,.any,.any,.any,.any,.any,.any,.any,.any,.any,.any,.any,.any,.any,.any,.any,.any,.any,.any,.any,.any,.any,.any,.any,.any,.any,.any,.any,.any,.any,.any,.any,.any,.any,.any,.any,.any,.any,.any,.any,.any,.any,.any,.any,.any,.any,.any,.any,.any,.any,.any,.any,.any,.any,.any,.any,.any,.any,.any,.any,.any,.any,.any,.any,.any,.any,.any,.any,.any,.any,.any,.any,.any,.any,.any,.any,.any,.any,.any,.any,.any,.any,.any,.any,.any,.any,.any,.any,.any,.any,.any,.any,.any,.any,.any,.any,.any,.any,.any,.any,.any,.any,.any,.any,.any,.any,.any,.any,.any,.any,.any,.any,.any,.any,.any,.any,.any,.any,.any,.any,.any,.any,.any,.any,.any,.any,.any,.any,.any,.any]) (n := rows.length) ?_ ⟨0,by omega,fun j hj => absurd hj (Nat.not_lt_zero _),hL,hF,rfl⟩ ?_
      · repeat (first | exact leEnv_nil | refine leEnv_any _ ?_ | refine leEnv_same _ ?_ | refine leEnv_norm _ ?_)
      clear hL hF rF
      rintro b3 e s ⟨i,hib,hno,hL,hF,rfl⟩
      by_cases hli : i < rows.length
      · have d2 : (i : Int) < (rows.length : Int) := by omega
        have d3 : (0 : Int) ≤ (i : Int) := by omega
        have hwi := wrap1 (k := i) (by have := (okK_col hok).len; omega)
        have hgi := getm rwSV hli
        have hmem : rows[i] ∈ rows := List.getElem_mem hli
        have hcol := (okK_col hok).col _ hmem
        have hRi := hRall _ hmem
        have hpm : ∀ hh : i < (rows.map fun r => (r.cols.getD k default).pat).length,(rows.map fun r => (r.cols.getD k default).pat)[i] = (rows[i].cols.getD k default).pat := fun _ => by rw [List.getElem_map]
        have hpc : (rows[i].cols.getD k default).pat ∈ colK rows k := List.mem_map.2 ⟨_,hmem,rfl⟩
        have hro := okK_row hok he hpc
        obtain ⟨ri,hri⟩ : ∃ ri,rows[i] = ri := ⟨_,rfl⟩
        rw [hri] at hgi hcol hRi hpm hro
        have hgci := getm celSV hcol
        rw [getd hcol] at hRi hpm hro
        obtain ⟨ci,hci⟩ : ∃ ci,ri.cols[k] = ci := ⟨_,rfl⟩
        rw [hci] at hgci hRi hpm hro
        have d4 : (k : Int) < (ri.cols.length : Int) := by omega
        obtain ⟨x,hx⟩ : ∃ x,ci.pat = x := ⟨_,rfl⟩
        have hcelx : celSV ci = .agg ((nodeSV x).cells ++ [.slice .imm 1 (ci.path.map i64)]) := by rw [cells_node,← hx]; rfl
        obtain ⟨S1,hS1⟩ : ∃ S1,s ++ [Ob.cells (nodeSV x).cells] = S1 := ⟨_,rfl⟩
        have hL1 := hL.app [Ob.cells (nodeSV x).cells]
        rw [hS1] at hL1
        have hF1 : S1[st.length + 3]? = some (.cells [str fst.name,str fst.of_,i64 fst.tag,i64 fst.arity,i64 fst.many]) := by rw [← hS1]; exact get_app hF _
        have g14 : S1[s.length]? = some (.cells (nodeSV x).cells) := by rw [← hS1]; simp
        have r14 := cells_facts g14
        have hl1' : S1.length = s.length + 1 := by rw [← hS1]; simp
        have hls : st.length + 3 < s.length := lt_of_get hF
        rw [hx] at hRi hpm hro
        have hnext : (!looseB x && (cnOf eqsS x).tag == (tag : Int)) = false → ∀ j,j < i + 1 → ∀ y,(rows.map fun r => (r.cols.getD k default).pat)[j]? = some y → (!looseB y && (cnOf eqsS y).tag == (tag : Int)) = false := fun hq j hj y hy => by
          by_cases ee : j = i
          · subst ee
            rw [List.getElem?_eq_getElem (by rw [List.length_map]; exact hli),hpm] at hy
            rw [← Option.some.inj hy]; exact hq
          · exact hno j (by omega) y hy
        rcases (Bool.eq_false_or_eq_true (looseB x)) with hLx | hLx
        · simp -implicitDefEqProofs (maxSteps := 2000000) only [↓ops_nil,↓ops_none,↓ops_some,↓kd_eff,↓dr_nil,↓dr_cons,↓d1_none,↓d1_some,↓eff_store,↓eff_box,↓eff_alloc,↓eff_build,↓eff_buildSlice,↓eff_call,↓eff_append,↓eff_copy,↓eff_cap,↓eff_clear,↓eff_make,↓reduceIte,↓c_condI,↓c_seqH,↓c_blockH,↓then_nH,↓then_rH,↓then_eH,↓block_nH,↓block_rH,↓block_eH,go_sem,d2,d3,d4,c4,hgi,hgci,rwSV,celSV,hx,agg_nd,cell_nd,hS1,r14.1,r14.2.1,r14.2.2,List.length_map]
          refine loose31_c _ _ _ ?_
          rw [hLx]
          simp -implicitDefEqProofs (maxSteps := 2000000) only [↓ops_nil,↓ops_none,↓ops_some,↓kd_eff,↓dr_nil,↓dr_cons,↓d1_none,↓d1_some,↓eff_store,↓eff_box,↓eff_alloc,↓eff_build,↓eff_buildSlice,↓eff_call,↓eff_append,↓eff_copy,↓eff_cap,↓eff_clear,↓eff_make,↓reduceIte,↓c_condI,↓c_seqH,↓c_blockH,↓then_nH,↓then_rH,↓then_eH,↓block_nH,↓block_rH,↓block_eH,go_sem,hwi]
          refine ⟨b3 - 1,[.ptr bid 0,.slice md 2 (rows.map rwSV),.any,.any,.ptr st.length 0,i64 k,.ptr (st.length + 1) 0,.any,.any,.any,.any,.ptr (st.length + 3) 0,i64 tag,i64 ((i + 1 : Nat) : Int),.any,.any,.any,.any,.any,.any,.any,.any,.any,.any,.any,.any,.any,.any,.any,.any,.any,.any,.any,.any,.any,.any,.any,.any,.any,.any,.any,.any,.any,.any,.any,.any,.any,.any,.any,.any,.any,.any,.any,.any,.any,.any,.any,.any,.any,.any,.any,.any,.any,.any,.any,.any,.any,.any,.any,.any,.any,.any,.any,.any,.any,.any,.any,.any,.any,.any,.any,.any,.any,.any,.any,.any,.any,.any,.any,.any,.any,.any,.any,.any,.any,.any,.any,.any,.any,.any,.any,.any,.any,.any,.any,.any,.any,.any,.any,.any,.any,.any,.any,.any,.any,.any,.any,.any,.any,.any,.any,.any,.any,.any,.any,.any,.any,.any,.any,.any,.any,.any,.any,.any,.any,.any,.any,.any,.any,.any,.any,.any,.any,.any,.any,.any,.any,.any,.any,.any,.any,.any,.any,.any,.any,.any,.any,.any,.any,.any,.any,.any,.any,.any,.any,.any,.any,.any,.any,.any,.any,.any,.any,.any,.any,.any,.any,.any,.any,.any,.any,.any,.any,.any,.any,.any,.any,.any,.any,.any,.any,.any,.any,.any,.any,.any,.any,.any,.any,.any,.any,.any,.any,.any,.any,.any,.any,.any,.any,.any,.any,.any,.any,.any,.any,.any,.any,.any,.any,.any,.any,.any,.any,.any,.any,.any,.any,.any,.any,.any,.any,.any,.any,.any,.any,.any,.any,.any,.any,.any,.any,.any],by omega,?_,i + 1,by omega,hnext (by rw [hLx]; rfl),hL1,hF1,rfl⟩
          repeat (first | exact leEnv_nil | refine leEnv_any _ ?_ | refine leEnv_same _ ?_ | refine leEnv_norm _ ?_)
        obtain ⟨hx5,hxs⟩ : x.kind = 5 ∧ (eqsS.fc x.text).isSome = true := by
          rcases hRi with h | h
          · rw [hLx] at h; cases h
          · exact h
        obtain ⟨kx,hkx,hidx2,hgetx⟩ := find_cn hxs
        have hgx := getm conSV hkx
        rw [hgetx] at hgx
        obtain ⟨cn,hcn⟩ : ∃ cn,cnOf eqsS x = cn := ⟨_,rfl⟩
        rw [hcn] at hgx hnext
        have ckx : (kx : Int) < (consL.length : Int) := by omega
        have ckx0 : (0 : Int) ≤ (kx : Int) := by omega
        have hfindx : ∀ (K : SV → St → Prop) (st : St),K (i64 kx) st → ACalls Try.prog 33 [.slice .imm 5 (consL.map conSV),str x.text] K st := fun K st hK => find33_c .imm consL x.text (by decide) K st (by rw [hidx2]; exact hK)
        have b1 := cells_facts hL1.b
        have hL2 := hL1.app [Ob.cells [str ⟨#[]⟩,str ⟨#[]⟩,i64 0,i64 0,i64 0]]
        obtain ⟨S2,hS2⟩ : ∃ S2,S1 ++ [Ob.cells [str ⟨#[]⟩,str ⟨#[]⟩,i64 0,i64 0,i64 0]] = S2 := ⟨_,rfl⟩
        rw [hS2] at hL2
        have hF2 : S2[st.length + 3]? = some (.cells [str fst.name,str fst.of_,i64 fst.tag,i64 fst.arity,i64 fst.many]) := by rw [← hS2]; exact get_app hF1 _
        have g142 : S2[s.length]? = some (.cells (nodeSV x).cells) := by rw [← hS2]; exact get_app g14 _
        have r142 := cells_facts g142
        have b2 := cells_facts hL2.b
        have g15 := cells_facts (show S2[s.length + 1]? = some (.cells [str ⟨#[]⟩,str ⟨#[]⟩,i64 0,i64 0,i64 0]) by rw [← hS2,← hl1']; simp)
        have hL3 := hL2.setF hbl (id := s.length + 1) (by omega) (.cells [str cn.name,str cn.of_,i64 cn.tag,i64 cn.arity,i64 cn.many])
        obtain ⟨S3,hS3⟩ : ∃ S3,S2.set (s.length + 1) (.cells [str cn.name,str cn.of_,i64 cn.tag,i64 cn.arity,i64 cn.many]) = S3 := ⟨_,rfl⟩
        rw [hS3] at hL3
        have hF3 : S3[st.length + 3]? = some (.cells [str fst.name,str fst.of_,i64 fst.tag,i64 fst.arity,i64 fst.many]) := by rw [← hS3]; exact (set_get_ne (by omega)).trans hF2
        have g143 : S3[s.length]? = some (.cells (nodeSV x).cells) := by rw [← hS3]; exact (set_get_ne (by omega)).trans g142
        have r143 := cells_facts g143
        have g153 := cells_facts (show S3[s.length + 1]? = some (.cells [str cn.name,str cn.of_,i64 cn.tag,i64 cn.arity,i64 cn.many]) by rw [← hS3]; exact set_get (by rw [← hS2]; simp; omega))
        simp -implicitDefEqProofs (maxSteps := 2000000) only [↓ops_nil,↓ops_none,↓ops_some,↓kd_eff,↓dr_nil,↓dr_cons,↓d1_none,↓d1_some,↓eff_store,↓eff_box,↓eff_alloc,↓eff_build,↓eff_buildSlice,↓eff_call,↓eff_append,↓eff_copy,↓eff_cap,↓eff_clear,↓eff_make,↓reduceIte,↓c_condI,↓c_seqH,↓c_blockH,↓then_nH,↓then_rH,↓then_eH,↓block_nH,↓block_rH,↓block_eH,go_sem,d2,d3,d4,c4,hgi,hgci,rwSV,celSV,hx,agg_nd,cell_nd,hS1,r14.1,r14.2.1,r14.2.2,List.length_map]
        refine loose31_c _ _ _ ?_
        rw [hLx]
        simp -implicitDefEqProofs (maxSteps := 2000000) only [↓ops_nil,↓ops_none,↓ops_some,↓kd_eff,↓dr_nil,↓dr_cons,↓d1_none,↓d1_some,↓eff_store,↓eff_box,↓eff_alloc,↓eff_build,↓eff_buildSlice,↓eff_call,↓eff_append,↓eff_copy,↓eff_cap,↓eff_clear,↓eff_make,↓reduceIte,↓c_condI,↓c_seqH,↓c_blockH,↓then_nH,↓then_rH,↓then_eH,↓block_nH,↓block_rH,↓block_eH,go_sem]
        refine awp_drawW [] [(0,[14]),(0,[14]),(0,[14]),(0,[14]),(0,[14]),(0,[14]),(0,[14]),(0,[14]),(0,[14]),(0,[14]),(0,[14]),(0,[14]),(0,[14]),(3,[14]),(1,[15])] Try.mixed rfl ?_
        simp -implicitDefEqProofs (maxSteps := 2000000) only [↓ops_nil,↓ops_none,↓ops_some,↓kd_eff,↓dr_nil,↓dr_cons,↓d1_none,↓d1_some,↓eff_store,↓eff_box,↓eff_alloc,↓eff_build,↓eff_buildSlice,↓eff_call,↓eff_append,↓eff_copy,↓eff_cap,↓eff_clear,↓eff_make,↓reduceIte,↓c_condI,↓c_seqH,↓c_blockH,↓then_nH,↓then_rH,↓then_eH,↓block_nH,↓block_rH,↓block_eH,go_sem,drawW_n,drawW_0,drawW_2,drawW_1,drawW_3,pend_n,pend_c,headD_c,isStore_s,b1.1,b1.2.1,b1.2.2,r14.1,r14.2.1,r14.2.2,List.length_map]
        rw [dk_eff]
        refine ⟨i64 kx,?_,?_⟩
        · simp -implicitDefEqProofs (maxSteps := 2000000) only [↓ops_nil,↓ops_none,↓ops_some,↓kd_eff,↓dr_nil,↓dr_cons,↓d1_none,↓d1_some,↓eff_store,↓eff_box,↓eff_alloc,↓eff_build,↓eff_buildSlice,↓eff_call,↓eff_append,↓eff_copy,↓eff_cap,↓eff_clear,↓eff_make,↓reduceIte,↓c_condI,↓c_seqH,↓c_blockH,↓then_nH,↓then_rH,↓then_eH,↓block_nH,↓block_rH,↓block_eH,go_sem]
          refine hfindx _ _ ?_
          exact kept_sc
        simp -implicitDefEqProofs (maxSteps := 2000000) only [↓ops_nil,↓ops_none,↓ops_some,↓kd_eff,↓dr_nil,↓dr_cons,↓d1_none,↓d1_some,↓eff_store,↓eff_box,↓eff_alloc,↓eff_build,↓eff_buildSlice,↓eff_call,↓eff_append,↓eff_copy,↓eff_cap,↓eff_clear,↓eff_make,↓reduceIte,↓c_condI,↓c_seqH,↓c_blockH,↓then_nH,↓then_rH,↓then_eH,↓block_nH,↓block_rH,↓block_eH,go_sem,drawW_n,drawW_0,drawW_2,drawW_1,drawW_3,pend_n,pend_c,headD_c,isStore_s,b1.1,b1.2.1,b1.2.2,r14.1,r14.2.1,r14.2.2,ckx,ckx0,hgx,hl1',List.length_map]
        refine ⟨_,_,⟨rfl,hS2⟩,?_⟩
        simp -implicitDefEqProofs (maxSteps := 2000000) only [↓ops_nil,↓ops_none,↓ops_some,↓kd_eff,↓dr_nil,↓dr_cons,↓d1_none,↓d1_some,↓eff_store,↓eff_box,↓eff_alloc,↓eff_build,↓eff_buildSlice,↓eff_call,↓eff_append,↓eff_copy,↓eff_cap,↓eff_clear,↓eff_make,↓reduceIte,↓c_condI,↓c_seqH,↓c_blockH,↓then_nH,↓then_rH,↓then_eH,↓block_nH,↓block_rH,↓block_eH,go_sem,drawW_n,drawW_0,drawW_2,drawW_1,drawW_3,pend_n,pend_c,headD_c,isStore_s,b2.1,b2.2.1,b2.2.2,r142.1,r142.2.1,r142.2.2,g15.1,g15.2.1,g15.2.2,ckx,ckx0,hgx,conSV,List.length_map]
        refine ⟨by
          rw [dk_eff]
          refine ⟨i64 kx,?_,rfl⟩
          simp -implicitDefEqProofs (maxSteps := 2000000) only [↓ops_nil,↓ops_none,↓ops_some,↓kd_eff,↓dr_nil,↓dr_cons,↓d1_none,↓d1_some,↓eff_store,↓eff_box,↓eff_alloc,↓eff_build,↓eff_buildSlice,↓eff_call,↓eff_append,↓eff_copy,↓eff_cap,↓eff_clear,↓eff_make,↓reduceIte,↓c_condI,↓c_seqH,↓c_blockH,↓then_nH,↓then_rH,↓then_eH,↓block_nH,↓block_rH,↓block_eH,go_sem]
          refine hfindx _ _ ?_
          exact kept_sc,?_⟩
        rw [hS3]
        cases htg : (cn.tag == (tag : Int)) with
        | false =>
          simp -implicitDefEqProofs (maxSteps := 2000000) only [↓ops_nil,↓ops_none,↓ops_some,↓kd_eff,↓dr_nil,↓dr_cons,↓d1_none,↓d1_some,↓eff_store,↓eff_box,↓eff_alloc,↓eff_build,↓eff_buildSlice,↓eff_call,↓eff_append,↓eff_copy,↓eff_cap,↓eff_clear,↓eff_make,↓reduceIte,↓c_condI,↓c_seqH,↓c_blockH,↓then_nH,↓then_rH,↓then_eH,↓block_nH,↓block_rH,↓block_eH,go_sem,g153.1,g153.2.1,g153.2.2,htg,hwi]
          refine ⟨b3 - 1,[.ptr bid 0,.slice md 2 (rows.map rwSV),.any,.any,.ptr st.length 0,i64 k,.ptr (st.length + 1) 0,.any,.any,.any,.any,.ptr (st.length + 3) 0,i64 tag,i64 ((i + 1 : Nat) : Int),.any,.any,.any,.any,.any,.any,.any,.any,.any,.any,.any,.any,.any,.any,.any,.any,.any,.any,.any,.any,.any,.any,.any,.any,.any,.any,.any,.any,.any,.any,.any,.any,.any,.any,.any,.any,.any,.any,.any,.any,.any,.any,.any,.any,.any,.any,.any,.any,.any,.any,.any,.any,.any,.any,.any,.any,.any,.any,.any,.any,.any,.any,.any,.any,.any,.any,.any,.any,.any,.any,.any,.any,.any,.any,.any,.any,.any,.any,.any,.any,.any,.any,.any,.any,.any,.any,.any,.any,.any,.any,.any,.any,.any,.any,.any,.any,.any,.any,.any,.any,.any,.any,.any,.any,.any,.any,.any,.any,.any,.any,.any,.any,.any,.any,.any,.any,.any,.any,.any,.any,.any,.any,.any,.any,.any,.any,.any,.any,.any,.any,.any,.any,.any,.any,.any,.any,.any,.any,.any,.any,.any,.any,.any,.any,.any,.any,.any,.any,.any,.any,.any,.any,.any,.any,.any,.any,.any,.any,.any,.any,.any,.any,.any,.any,.any,.any,.any,.any,.any,.any,.any,.any,.any,.any,.any,.any,.any,.any,.any,.any,.any,.any,.any,.any,.any,.any,.any,.any,.any,.any,.any,.any,.any,.any,.any,.any,.any,.any,.any,.any,.any,.any,.any,.any,.any,.any,.any,.any,.any,.any,.any,.any,.any,.any,.any,.any,.any,.any,.any,.any,.any,.any,.any,.any,.any,.any,.any,.any],by omega,?_,i + 1,by omega,hnext (by rw [hLx,htg]; rfl),hL3,hF3,rfl⟩
          repeat (first | exact leEnv_nil | refine leEnv_any _ ?_ | refine leEnv_same _ ?_ | refine leEnv_norm _ ?_)
        | true =>
          have htagOf : tagOf eqsS rows k (tag : Int) = some x := by
            unfold tagOf colK
            rw [List.find?_eq_some_iff_getElem]
            refine ⟨by rw [hLx,hcn,htg]; rfl,i,by rw [List.length_map]; exact hli,hpm _,fun j hj => ?_⟩
            rw [hno j hj _ (List.getElem?_eq_getElem _)]; rfl
          rw [htagOf] at hrest
          dsimp only at hrest
          cases hE : buildR eqsS b (leftR eqsS rows k x false) mj with
          | none => rw [hE] at hrest; cases hrest
          | some p =>
            obtain ⟨t',m''⟩ := p
            rw [hE] at hrest
            dsimp only at hrest
            have ro := cells_facts hL3.o
            have hL4 := hL3.call hbl m''
            simp -implicitDefEqProofs (maxSteps := 2000000) only [↓ops_nil,↓ops_none,↓ops_some,↓kd_eff,↓dr_nil,↓dr_cons,↓d1_none,↓d1_some,↓eff_store,↓eff_box,↓eff_alloc,↓eff_build,↓eff_buildSlice,↓eff_call,↓eff_append,↓eff_copy,↓eff_cap,↓eff_clear,↓eff_make,↓reduceIte,↓c_condI,↓c_seqH,↓c_blockH,↓then_nH,↓then_rH,↓then_eH,↓block_nH,↓block_rH,↓block_eH,go_sem,g153.1,g153.2.1,g153.2.2,htg,hwi]
            refine awp_drawW [] [(0,[12]),(0,[12]),(0,[12]),(0,[12]),(0,[]),(0,[]),(0,[]),(0,[]),(0,[]),(3,[12]),(0,[]),(0,[]),(3,[14]),(0,[]),(1,[15])] Try.mixed rfl ?_
            simp -implicitDefEqProofs (maxSteps := 2000000) only [↓ops_nil,↓ops_none,↓ops_some,↓kd_eff,↓dr_nil,↓dr_cons,↓d1_none,↓d1_some,↓eff_store,↓eff_box,↓eff_alloc,↓eff_build,↓eff_buildSlice,↓eff_call,↓eff_append,↓eff_copy,↓eff_cap,↓eff_clear,↓eff_make,↓reduceIte,↓c_condI,↓c_seqH,↓c_blockH,↓then_nH,↓then_rH,↓then_eH,↓block_nH,↓block_rH,↓block_eH,go_sem,drawW_n,drawW_0,drawW_2,drawW_1,drawW_3,pend_n,pend_c,headD_c,isStore_s,r143.1,r143.2.1,r143.2.2,ro.1,ro.2.1,ro.2.2,cell_nd]
            rw [dk_eff]
            refine ⟨.slice .imm 2 ((leftR eqsS rows k x false).map rwSV),?_,?_⟩
            · simp -implicitDefEqProofs (maxSteps := 2000000) only [↓ops_nil,↓ops_none,↓ops_some,↓kd_eff,↓dr_nil,↓dr_cons,↓d1_none,↓d1_some,↓eff_store,↓eff_box,↓eff_alloc,↓eff_build,↓eff_buildSlice,↓eff_call,↓eff_append,↓eff_copy,↓eff_cap,↓eff_clear,↓eff_make,↓reduceIte,↓c_condI,↓c_seqH,↓c_blockH,↓then_nH,↓then_rH,↓then_eH,↓block_nH,↓block_rH,↓block_eH,go_sem]
              refine left32_c md rows k x false hro _ _ ?_
              exact ⟨⟨[],by simp⟩,ids_rws _ .imm (.inl rfl) _,.inl rfl⟩
            obtain ⟨S4,hS4⟩ : ∃ S4,S3.set bid (.cells [.slice .imm 5 (consL.map conSV),i64 m'']) = S4 := ⟨_,rfl⟩
            rw [hS4] at hL4
            have hF4 : S4[st.length + 3]? = some (.cells [str fst.name,str fst.of_,i64 fst.tag,i64 fst.arity,i64 fst.many]) := by rw [← hS4]; exact (set_get_ne (by omega)).trans hF3
            have q9 := cells_facts (show S4[s.length]? = some (.cells (nodeSV x).cells) by rw [← hS4]; exact (set_get_ne (by omega)).trans g143)
            have qo := cells_facts hL4.o
            obtain ⟨r',p',cs',q',rfl,ht'⟩ := trC_eq t'
            refine ⟨.agg [i64 r',.slice .imm 1 (p'.map i64),.slice .imm 6 (csL cs'),.slice .imm 4 (trL q')],S4,?_,?_⟩
            · refine ih .imm (leftR eqsS rows k x false) mj _ m'' hE _ S3 bid hL3.b ?_
              exact ⟨by unfold trSV; rw [ht'],hS4⟩
            simp -implicitDefEqProofs (maxSteps := 2000000) only [↓ops_nil,↓ops_none,↓ops_some,↓kd_eff,↓dr_nil,↓dr_cons,↓d1_none,↓d1_some,↓eff_store,↓eff_box,↓eff_alloc,↓eff_build,↓eff_buildSlice,↓eff_call,↓eff_append,↓eff_copy,↓eff_cap,↓eff_clear,↓eff_make,↓reduceIte,↓c_condI,↓c_seqH,↓c_blockH,↓then_nH,↓then_rH,↓then_eH,↓block_nH,↓block_rH,↓block_eH,go_sem,drawW_n,drawW_0,drawW_2,drawW_1,drawW_3,pend_n,pend_c,headD_c,isStore_s,q9.1,q9.2.1,q9.2.2,qo.1,qo.2.1,qo.2.2,cell_nd]
            have hidc : ∀ n,∀ y ∈ [str x.text,i64 0,i64 r',.slice .imm 1 (p'.map i64),.slice .imm 6 (csL cs'),.slice .imm 4 (trL q')],Ids n y := fun n => by
              have := ids_csL n [.mk x.text 0 (.mk r' p' cs' q')] _ (List.mem_singleton.2 rfl)
              exact this
            rw [dk_eff]
            refine ⟨.agg [str x.text,i64 0,i64 r',.slice .imm 1 (p'.map i64),.slice .imm 6 (csL cs'),.slice .imm 4 (trL q')],?_,?_⟩
            · simp -implicitDefEqProofs (maxSteps := 2000000) only [↓ops_nil,↓ops_none,↓ops_some,↓kd_eff,↓dr_nil,↓dr_cons,↓d1_none,↓d1_some,↓eff_store,↓eff_box,↓eff_alloc,↓eff_build,↓eff_buildSlice,↓eff_call,↓eff_append,↓eff_copy,↓eff_cap,↓eff_clear,↓eff_make,↓reduceIte,↓c_condI,↓c_seqH,↓c_blockH,↓then_nH,↓then_rH,↓then_eH,↓block_nH,↓block_rH,↓block_eH,go_sem]
              exact ⟨⟨[],by simp⟩,by rw [ids_agg]; exact hidc _,.inl rfl⟩
            rw [dk_eff]
            refine ⟨.slice .full 6 [.agg [str x.text,i64 0,i64 r',.slice .imm 1 (p'.map i64),.slice .imm 6 (csL cs'),.slice .imm 4 (trL q')]],?_,?_⟩
            · simp -implicitDefEqProofs (maxSteps := 2000000) only [↓ops_nil,↓ops_none,↓ops_some,↓kd_eff,↓dr_nil,↓dr_cons,↓d1_none,↓d1_some,↓eff_store,↓eff_box,↓eff_alloc,↓eff_build,↓eff_buildSlice,↓eff_call,↓eff_append,↓eff_copy,↓eff_cap,↓eff_clear,↓eff_make,↓reduceIte,↓c_condI,↓c_seqH,↓c_blockH,↓then_nH,↓then_rH,↓then_eH,↓block_nH,↓block_rH,↓block_eH,go_sem]
              refine ⟨⟨[],by simp⟩,ids_slice (.inr rfl) fun z hz y hy => ?_,.inl rfl⟩
              simp only [List.mem_singleton] at hz
              subst hz
              exact hidc _ y hy
            have hcl : (csL acc).length = acc.length := csL_len acc
            have hap := app30 (n := acc.length + 1) (by omega)
            have qt := tokAt_eq (v' := v) hL4.t
            have hP := hL4.push hbl (.mk x.text 0 (.mk r' p' cs' q')) (v + 1)
            have he9 : csL (acc ++ [.mk x.text 0 (.mk r' p' cs' q')]) = csL acc ++ [.agg [str x.text,i64 0,i64 r',.slice .imm 1 (p'.map i64),.slice .imm 6 (csL cs'),.slice .imm 4 (trL q')]] := by rw [csL_app]; rfl
            rw [he9] at hP
            have qo2 := cells_facts (show (S4.set (st.length + 2) (.tok (v + 1)))[st.length + 1]? = _ from (set_get_ne (by omega)).trans hL4.o)
            simp -implicitDefEqProofs (maxSteps := 2000000) only [↓ops_nil,↓ops_none,↓ops_some,↓kd_eff,↓dr_nil,↓dr_cons,↓d1_none,↓d1_some,↓eff_store,↓eff_box,↓eff_alloc,↓eff_build,↓eff_buildSlice,↓eff_call,↓eff_append,↓eff_copy,↓eff_cap,↓eff_clear,↓eff_make,↓reduceIte,↓c_condI,↓c_seqH,↓c_blockH,↓then_nH,↓then_rH,↓then_eH,↓block_nH,↓block_rH,↓block_eH,go_sem,drawW_n,drawW_0,drawW_2,drawW_1,drawW_3,pend_n,pend_c,headD_c,isStore_s,qt,hcl]
            refine ⟨_,_,⟨hap,rfl,rfl⟩,?_⟩
            simp -implicitDefEqProofs (maxSteps := 2000000) only [↓ops_nil,↓ops_none,↓ops_some,↓kd_eff,↓dr_nil,↓dr_cons,↓d1_none,↓d1_some,↓eff_store,↓eff_box,↓eff_alloc,↓eff_build,↓eff_buildSlice,↓eff_call,↓eff_append,↓eff_copy,↓eff_cap,↓eff_clear,↓eff_make,↓reduceIte,↓c_condI,↓c_seqH,↓c_blockH,↓then_nH,↓then_rH,↓then_eH,↓block_nH,↓block_rH,↓block_eH,go_sem,qo2.1,qo2.2.1,qo2.2.2,hwt]
            refine ⟨bb',[.ptr bid 0,.slice md 2 (rows.map rwSV),.any,.any,.ptr st.length 0,i64 k,.ptr (st.length + 1) 0,.any,.any,.any,.any,.ptr (st.length + 3) 0,i64 ((tag + 1 : Nat) : Int),.any,.any,.any,.any,.any,.any,.any,.any,.any,.any,.any,.any,.any,.any,.any,.any,.any,.any,.any,.any,.any,.any,.any,.any,.any,.any,.any,.any,.any,.any,.any,.any,.any,.any,.any,.any,.any,.any,.any,.any,.any,.any,.any,.any,.any,.any,.any,.any,.any,.any,.any,.any,.any,.any,.any,.any,.any,.any,.any,.any,.any,.any,.any,.any,.any,.any,.any,.any,.any,.any,.any,.any,.any,.any,.any,.any,.any,.any,.any,.any,.any,.any,.any,.any,.any,.any,.any,.any,.any,.any,.any,.any,.any,.any,.any,.any,.any,.any,.any,.any,.any,.any,.any,.any,.any,.any,.any,.any,.any,.any,.any,.any,.any,.any,.any,.any,.any,.any,.any,.any,.any,.any,.any,.any,.any,.any,.any,.any,.any,.any,.any,.any,.any,.any,.any,.any,.any,.any,.any,.any,.any,.any,.any,.any,.any,.any,.any,.any,.any,.any,.any,.any,.any,.any,.any,.any,.any,.any,.any,.any,.any,.any,.any,.any,.any,.any,.any,.any,.any,.any,.any,.any,.any,.any,.any,.any,.any,.any,.any,.any,.any,.any,.any,.any,.any,.any,.any,.any,.any,.any,.any,.any,.any,.any,.any,.any,.any,.any,.any,.any,.any,.any,.any,.any,.any,.any,.any,.any,.any,.any,.any,.any,.any,.any,.any,.any,.any,.any,.any,.any,.any,.any,.any,.any,.any,.any,.any,.any,.any],by omega,?_,tag + 1,_,m'',v + 1,by omega,by rw [List.length_append]; simp; omega,?_,hP,(set_get_ne (by omega)).trans ((set_get_ne (by omega)).trans hF4),rfl⟩
            · repeat (first | exact leEnv_nil | refine leEnv_any _ ?_ | refine leEnv_same _ ?_ | refine leEnv_norm _ ?_)
            · exact hrest
      obtain rfl : i = rows.length := by omega
      have d2 : ((rows.length : Int) < (rows.length : Int)) = False := eq_false (by omega)
      have htagOf : tagOf eqsS rows k (tag : Int) = none := by
        unfold tagOf colK
        rw [List.find?_eq_none]
        intro y hy
        obtain ⟨j,hj⟩ := List.getElem?_of_mem hy
        have hjl := lt_of_get hj
        rw [List.length_map] at hjl
        rw [hno j hjl y hj]; decide
      rw [htagOf] at hrest
      dsimp only at hrest
      simp -implicitDefEqProofs (maxSteps := 2000000) only [↓ops_nil,↓ops_none,↓ops_some,↓kd_eff,↓dr_nil,↓dr_cons,↓d1_none,↓d1_some,↓eff_store,↓eff_box,↓eff_alloc,↓eff_build,↓eff_buildSlice,↓eff_call,↓eff_append,↓eff_copy,↓eff_cap,↓eff_clear,↓eff_make,↓reduceIte,↓c_condI,↓c_seqH,↓c_blockH,↓then_nH,↓then_rH,↓then_eH,↓block_nH,↓block_rH,↓block_eH,go_sem,d2,hwt,List.length_map]
      refine ⟨bb',[.ptr bid 0,.slice md 2 (rows.map rwSV),.any,.any,.ptr st.length 0,i64 k,.ptr (st.length + 1) 0,.any,.any,.any,.any,.ptr (st.length + 3) 0,i64 ((tag + 1 : Nat) : Int),.any,.any,.any,.any,.any,.any,.any,.any,.any,.any,.any,.any,.any,.any,.any,.any,.any,.any,.any,.any,.any,.any,.any,.any,.any,.any,.any,.any,.any,.any,.any,.any,.any,.any,.any,.any,.any,.any,.any,.any,.any,.any,.any,.any,.any,.any,.any,.any,.any,.any,.any,.any,.any,.any,.any,.any,.any,.any,.any,.any,.any,.any,.any,.any,.any,.any,.any,.any,.any,.any,.any,.any,.any,.any,.any,.any,.any,.any,.any,.any,.any,.any,.any,.any,.any,.any,.any,.any,.any,.any,.any,.any,.any,.any,.any,.any,.any,.any,.any,.any,.any,.any,.any,.any,.any,.any,.any,.any,.any,.any,.any,.any,.any,.any,.any,.any,.any,.any,.any,.any,.any,.any,.any,.any,.any,.any,.any,.any,.any,.any,.any,.any,.any,.any,.any,.any,.any,.any,.any,.any,.any,.any,.any,.any,.any,.any,.any,.any,.any,.any,.any,.any,.any,.any,.any,.any,.any,.any,.any,.any,.any,.any,.any,.any,.any,.any,.any,.any,.any,.any,.any,.any,.any,.any,.any,.any,.any,.any,.any,.any,.any,.any,.any,.any,.any,.any,.any,.any,.any,.any,.any,.any,.any,.any,.any,.any,.any,.any,.any,.any,.any,.any,.any,.any,.any,.any,.any,.any,.any,.any,.any,.any,.any,.any,.any,.any,.any,.any,.any,.any,.any,.any,.any,.any,.any,.any,.any,.any,.any],by omega,?_,tag + 1,acc,mj,v,by omega,by omega,hrest,hL,hF,rfl⟩
      repeat (first | exact leEnv_nil | refine leEnv_any _ ?_ | refine leEnv_same _ ?_ | refine leEnv_norm _ ?_)
    obtain rfl : tag = n := by omega
    obtain rfl : bb = 0 := by omega
    have d1 : ((tag : Int) < (tag : Int)) = False := eq_false (by omega)
    rw [tagsR] at hrest
    injection hrest with hrest
    injection hrest with e5 e6
    subst e5; subst e6
    have ro := cells_facts hL.o
    have rr := cells_facts hL.r
    have hcl : (csL acc).length = acc.length := csL_len acc
    have hlS : (st.set bid (.cells [.slice .imm 5 (consL.map conSV),i64 m'])).length = st.length := List.length_set
    by_cases hlt2 : (acc.length : Int) < (tag : Int)
    · rw [if_pos (by simpa using hlt2)] at hb
      cases hE2 : buildR eqsS b (leftR eqsS rows k default true) mj with
      | none => rw [hE2] at hb; cases hb
      | some p =>
        obtain ⟨t1,m3⟩ := p
        rw [hE2] at hb
        injection hb with hb
        injection hb with f1 f2
        subst f1; subst f2
        have hL' := hL.call hbl m3
        obtain ⟨r',p',cs',q',rfl,ht'⟩ := trC_eq t1
        obtain ⟨S4,hS4⟩ : ∃ S4,s.set bid (.cells [.slice .imm 5 (consL.map conSV),i64 m3]) = S4 := ⟨_,rfl⟩
        rw [hS4] at hL'
        have qo := cells_facts hL'.o
        simp -implicitDefEqProofs (maxSteps := 2000000) only [↓ops_nil,↓ops_none,↓ops_some,↓kd_eff,↓dr_nil,↓dr_cons,↓d1_none,↓d1_some,↓eff_store,↓eff_box,↓eff_alloc,↓eff_build,↓eff_buildSlice,↓eff_call,↓eff_append,↓eff_copy,↓eff_cap,↓eff_clear,↓eff_make,↓reduceIte,↓c_condI,↓c_seqH,↓c_blockH,↓then_nH,↓then_rH,↓then_eH,↓block_nH,↓block_rH,↓block_eH,go_sem,rF.1,rF.2.1,rF.2.2,hn,d1,ro.1,ro.2.1,ro.2.2,hcl,hlt2]
        refine awp_drawW [] [(0,[9]),(0,[9]),(0,[]),(0,[]),(0,[]),(0,[]),(0,[]),(3,[9]),(0,[]),(3,[11]),(0,[]),(1,[12])] Try.mixed rfl ?_
        simp -implicitDefEqProofs (maxSteps := 2000000) only [↓ops_nil,↓ops_none,↓ops_some,↓kd_eff,↓dr_nil,↓dr_cons,↓d1_none,↓d1_some,↓eff_store,↓eff_box,↓eff_alloc,↓eff_build,↓eff_buildSlice,↓eff_call,↓eff_append,↓eff_copy,↓eff_cap,↓eff_clear,↓eff_make,↓reduceIte,↓c_condI,↓c_seqH,↓c_blockH,↓then_nH,↓then_rH,↓then_eH,↓block_nH,↓block_rH,↓block_eH,go_sem,drawW_n,drawW_0,drawW_2,drawW_1,drawW_3,pend_n,pend_c,headD_c,isStore_s,ro.1,ro.2.1,ro.2.2]
        rw [dk_eff]
        refine ⟨.agg [i64 0,str ⟨#[]⟩,i64 0,i64 0,.slice .full 0 [],.slice .full 0 []],?_,?_⟩
        · simp -implicitDefEqProofs (maxSteps := 2000000) only [↓ops_nil,↓ops_none,↓ops_some,↓kd_eff,↓dr_nil,↓dr_cons,↓d1_none,↓d1_some,↓eff_store,↓eff_box,↓eff_alloc,↓eff_build,↓eff_buildSlice,↓eff_call,↓eff_append,↓eff_copy,↓eff_cap,↓eff_clear,↓eff_make,↓reduceIte,↓c_condI,↓c_seqH,↓c_blockH,↓then_nH,↓then_rH,↓then_eH,↓block_nH,↓block_rH,↓block_eH,go_sem]
          refine ⟨⟨[],by simp⟩,?_,.inl rfl⟩
          rw [ids_agg]
          intro y hy
          simp only [List.mem_cons,List.not_mem_nil,or_false] at hy
          rcases hy with rfl | rfl | rfl | rfl | rfl | rfl
          · exact .sc _
          · exact .sc _
          · exact .sc _
          · exact .sc _
          · exact ids_slice (.inr rfl) fun x hx => by cases hx
          · exact ids_slice (.inr rfl) fun x hx => by cases hx
        rw [dk_eff]
        refine ⟨.slice .imm 2 ((leftR eqsS rows k default true).map rwSV),?_,?_⟩
        · simp -implicitDefEqProofs (maxSteps := 2000000) only [↓ops_nil,↓ops_none,↓ops_some,↓kd_eff,↓dr_nil,↓dr_cons,↓d1_none,↓d1_some,↓eff_store,↓eff_box,↓eff_alloc,↓eff_build,↓eff_buildSlice,↓eff_call,↓eff_append,↓eff_copy,↓eff_cap,↓eff_clear,↓eff_make,↓reduceIte,↓c_condI,↓c_seqH,↓c_blockH,↓then_nH,↓then_rH,↓then_eH,↓block_nH,↓block_rH,↓block_eH,go_sem]
          refine acalls_args (.cons (SVle.refl _) (.cons (SVle.refl _) (.cons node_def_le (.cons (SVle.refl _) .nil)))) (left32_c md rows k default true (okK_def hok) _ _ ?_)
          exact ⟨⟨[],by simp⟩,ids_rws _ .imm (.inl rfl) _,.inl rfl⟩
        refine ⟨.agg [i64 r',.slice .imm 1 (p'.map i64),.slice .imm 6 (csL cs'),.slice .imm 4 (trL q')],S4,?_,?_⟩
        · refine ih .imm (leftR eqsS rows k default true) mj _ m3 hE2 _ s bid hL.b ?_
          exact ⟨by unfold trSV; rw [ht'],hS4⟩
        simp -implicitDefEqProofs (maxSteps := 2000000) only [↓ops_nil,↓ops_none,↓ops_some,↓kd_eff,↓dr_nil,↓dr_cons,↓d1_none,↓d1_some,↓eff_store,↓eff_box,↓eff_alloc,↓eff_build,↓eff_buildSlice,↓eff_call,↓eff_append,↓eff_copy,↓eff_cap,↓eff_clear,↓eff_make,↓reduceIte,↓c_condI,↓c_seqH,↓c_blockH,↓then_nH,↓then_rH,↓then_eH,↓block_nH,↓block_rH,↓block_eH,go_sem,drawW_n,drawW_0,drawW_2,drawW_1,drawW_3,pend_n,pend_c,headD_c,isStore_s,qo.1,qo.2.1,qo.2.2]
        rw [dk_eff]
        refine ⟨.slice .full 4 [.agg [i64 r',.slice .imm 1 (p'.map i64),.slice .imm 6 (csL cs'),.slice .imm 4 (trL q')]],?_,?_⟩
        · simp -implicitDefEqProofs (maxSteps := 2000000) only [↓ops_nil,↓ops_none,↓ops_some,↓kd_eff,↓dr_nil,↓dr_cons,↓d1_none,↓d1_some,↓eff_store,↓eff_box,↓eff_alloc,↓eff_build,↓eff_buildSlice,↓eff_call,↓eff_append,↓eff_copy,↓eff_cap,↓eff_clear,↓eff_make,↓reduceIte,↓c_condI,↓c_seqH,↓c_blockH,↓then_nH,↓then_rH,↓then_eH,↓block_nH,↓block_rH,↓block_eH,go_sem]
          refine ⟨⟨[],by simp⟩,ids_slice (.inr rfl) fun z hz y hy => ?_,.inl rfl⟩
          simp only [List.mem_singleton] at hz
          subst hz
          have := ids_trC (List.length S4) (.mk r' p' cs' q')
          exact this y hy
        have hap := app31 (n := 1) (by omega)
        have hL6 := hL'.app [Ob.tok 0]
        have qo2 := cells_facts hL6.o
        simp -implicitDefEqProofs (maxSteps := 2000000) only [↓ops_nil,↓ops_none,↓ops_some,↓kd_eff,↓dr_nil,↓dr_cons,↓d1_none,↓d1_some,↓eff_store,↓eff_box,↓eff_alloc,↓eff_build,↓eff_buildSlice,↓eff_call,↓eff_append,↓eff_copy,↓eff_cap,↓eff_clear,↓eff_make,↓reduceIte,↓c_condI,↓c_seqH,↓c_blockH,↓then_nH,↓then_rH,↓then_eH,↓block_nH,↓block_rH,↓block_eH,go_sem,drawW_n,drawW_0,drawW_2,drawW_1,drawW_3,pend_n,pend_c,headD_c,isStore_s]
        refine ⟨_,_,⟨hap,rfl,rfl⟩,?_⟩
        have rr4 := cells_facts (show ((S4 ++ [Ob.tok 0]).set (st.length + 1) (.cells [i64 0,.slice .imm 1 (c.path.map i64),.slice (.own (st.length + 2) v) 6 (csL acc),.slice (.own S4.length 0) 4 [.agg [i64 r',.slice .imm 1 (p'.map i64),.slice .imm 6 (csL cs'),.slice .imm 4 (trL q')]]]))[st.length]? = _ from (set_get_ne (by omega)).trans hL6.r)
        simp -implicitDefEqProofs (maxSteps := 2000000) only [↓ops_nil,↓ops_none,↓ops_some,↓kd_eff,↓dr_nil,↓dr_cons,↓d1_none,↓d1_some,↓eff_store,↓eff_box,↓eff_alloc,↓eff_build,↓eff_buildSlice,↓eff_call,↓eff_append,↓eff_copy,↓eff_cap,↓eff_clear,↓eff_make,↓reduceIte,↓c_condI,↓c_seqH,↓c_blockH,↓then_nH,↓then_rH,↓then_eH,↓block_nH,↓block_rH,↓block_eH,go_sem,drawW_n,drawW_0,drawW_2,drawW_1,drawW_3,pend_n,pend_c,headD_c,isStore_s,qo2.1,qo2.2.1,qo2.2.2,rr4.1,rr4.2.1,rr4.2.2]
        refine fin_tree hlS (ob_bc _ _) (ex_set (ex_set hL6.ex (by rw [hlS]; omega) _) (by rw [hlS]; exact Nat.le_refl _) _) (.mk 0 c.path acc [.mk r' p' cs' q']) ?_ h
        exact SVle.agg (.cons (SVle.refl _) (.cons (SVle.refl _) (.cons (le_imm _ _ _) (.cons (le_imm _ _ _) .nil))))
    · rw [if_neg (by simpa using hlt2)] at hb
      injection hb with hb
      injection hb with f1 f2
      subst f1; subst f2
      simp -implicitDefEqProofs (maxSteps := 2000000) only [↓ops_nil,↓ops_none,↓ops_some,↓kd_eff,↓dr_nil,↓dr_cons,↓d1_none,↓d1_some,↓eff_store,↓eff_box,↓eff_alloc,↓eff_build,↓eff_buildSlice,↓eff_call,↓eff_append,↓eff_copy,↓eff_cap,↓eff_clear,↓eff_make,↓reduceIte,↓c_condI,↓c_seqH,↓c_blockH,↓then_nH,↓then_rH,↓then_eH,↓block_nH,↓block_rH,↓block_eH,go_sem,rF.1,rF.2.1,rF.2.2,hn,d1,ro.1,ro.2.1,ro.2.2,rr.1,rr.2.1,rr.2.2,hcl,hlt2]
      refine fin_tree hlS (ob_bc _ _) (ex_set hL.ex (by rw [hlS]; exact Nat.le_refl _) _) (.mk 0 c.path acc []) ?_ h
      exact SVle.agg (.cons (SVle.refl _) (.cons (SVle.refl _) (.cons (le_imm _ _ _) (.cons (le_nil _ _) .nil))))
end Go.Proofs
