/- selvageref09: Sound, parts, Size. -/
import Derived.Test.YtcanmhognofheaaW41
import Derived.Test.YtcanmhognofheaaP10
set_option linter.all false
set_option maxHeartbeats 4000000
set_option linter.unusedSimpArgs false
set_option linter.unusedVariables false
set_option maxRecDepth 8000
namespace Go.Proofs
open Go Go.AL
set_option maxRecDepth 100000 in
theorem sound28_c (K : SV → St → Prop) (st : St) (h : K (.sc (.bool true)) st) : ACalls Try.prog 28 [consSV consL] K st :=
  acalls_checkT (cfg := {}) cfg_none Try.mixed 3000 (y := .sc (.bool true)) (by decide +kernel) h
theorem parts_step (l : List Nd) (name : ByteArray) (i : Nat) {j : Nat} (h : j < l.length) : partsT (l.take (j + 1)) name i = partsT (l.take j) name i ++ if l[j].kind == 5 && l[j].text.data.toList == name.data.toList then [l[j].kids.getD i default] else [] := by
  unfold partsT
  rw [List.take_succ_eq_append_getElem h,List.filter_append,List.map_append]
  congr 1
  simp only [List.filter_cons,List.filter_nil]
  split <;> simp
theorem parts_len (l : List Nd) (name : ByteArray) (i : Nat) : (partsT l name i).length ≤ l.length := by
  unfold partsT; rw [List.length_map]; exact List.length_filter_le _ _
theorem parts62_c (m : AL.Mode) (l : List Nd) (name : ByteArray) (i : Nat) (hl : l.length ≤ 1000) (hi : ∀ p ∈ l,p.kind = 5 → p.text.data.toList = name.data.toList → i < p.kids.length) (K : SV → St → Prop) (st : St) (h : K (.slice .imm 6 ((partsT l name i).map nodeSV)) st) :
    ACalls Try.prog 62 [.slice m 6 (l.map nodeSV),str name,i64 i] K st := by
  refine acalls_goV [] Try.func62 rfl Try.results62 Try.ntmps62 ?_
  simp -implicitDefEqProofs (maxSteps := 2000000) only [↓ops_nil,↓ops_none,↓ops_some,↓kd_eff,↓dr_nil,↓dr_cons,↓d1_none,↓d1_some,↓eff_store,↓eff_box,↓eff_alloc,↓eff_build,↓eff_buildSlice,↓eff_call,↓eff_append,↓eff_copy,↓eff_cap,↓eff_clear,↓eff_make,↓reduceIte,↓c_condI,↓c_seqH,↓c_blockH,↓then_nH,↓then_rH,↓then_eH,↓block_nH,↓block_rH,↓block_eH,go_sem]
  refine awp_own 7 6 0 rfl ?_
  refine awp_rounds [] (fun b e s => ∃ j v,j + b = l.length ∧ s[st.length]? = some (.tok v) ∧ (∃ ex,s = st ++ ex) ∧ e = [.slice m 6 (l.map nodeSV),str name,i64 i,.any,.any,.any,.any,.slice (.own st.length v) 6 ((partsT (l.take j) name i).map nodeSV),i64 j,.any,.any,.any,.any,.any,.any,.any,.any,.any,.any,.any,.any,.any,.any,.any,.any,.any,.any,.any,.any,.any,.any,.any,.any,.any,.any,.any,.any,.any,.any,.any,.any,.any]) (n := l.length) ?_ ⟨0,0,by omega,by simp,⟨_,rfl⟩,rfl⟩ ?_
  · simp only [List.set_cons_succ,List.set_cons_zero]
    repeat (first | exact leEnv_nil | refine leEnv_any _ ?_ | refine leEnv_same _ ?_ | refine leEnv_norm _ ?_)
  rintro b e s ⟨j,v,hjb,hT,hex,rfl⟩
  by_cases hlt : j < l.length
  · have c1 : (j : Int) < (l.length : Int) := by omega
    have c3 : (0 : Int) ≤ (j : Int) := by omega
    have hw := wrap1 (k := j) (by omega)
    have hgt := getm nodeSV hlt
    have hstep := parts_step l name i hlt
    have hul := parts_len (l.take j) name i
    have hlj : (l.take j).length ≤ 1000 := by rw [List.length_take]; omega
    have hix := hi _ (List.getElem_mem hlt)
    obtain ⟨x,hx⟩ : ∃ x,l[j] = x := ⟨_,rfl⟩
    rw [hx] at hgt hstep hix
    have qt := tokAt_eq (v' := v) hT
    cases hk5 : (x.kind == 5) with
    | false =>
      rw [hk5] at hstep
      simp only [Bool.false_and,Bool.false_eq_true,if_false,List.append_nil] at hstep
      simp -implicitDefEqProofs (maxSteps := 2000000) only [↓ops_nil,↓ops_none,↓ops_some,↓kd_eff,↓dr_nil,↓dr_cons,↓d1_none,↓d1_some,↓eff_store,↓eff_box,↓eff_alloc,↓eff_build,↓eff_buildSlice,↓eff_call,↓eff_append,↓eff_copy,↓eff_cap,↓eff_clear,↓eff_make,↓reduceIte,↓c_condI,↓c_seqH,↓c_blockH,↓then_nH,↓then_rH,↓then_eH,↓block_nH,↓block_rH,↓block_eH,go_sem,c1,c3,hgt,hk5,hw,List.length_map]
      refine ⟨b - 1,[.slice m 6 (l.map nodeSV),str name,i64 i,.any,.any,.any,.any,.slice (.own st.length v) 6 ((partsT (l.take (j + 1)) name i).map nodeSV),i64 ((j + 1 : Nat) : Int),.any,.any,.any,.any,.any,.any,.any,.any,.any,.any,.any,.any,.any,.any,.any,.any,.any,.any,.any,.any,.any,.any,.any,.any,.any,.any,.any,.any,.any,.any,.any,.any,.any],by omega,?_,j + 1,v,by omega,hT,hex,rfl⟩
      rw [hstep]
      repeat (first | exact leEnv_nil | refine leEnv_any _ ?_ | refine leEnv_same _ ?_ | refine leEnv_norm _ ?_)
    | true =>
      cases htx : (x.text.data.toList == name.data.toList) with
      | false =>
        rw [hk5,htx] at hstep
        simp only [Bool.and_false,Bool.false_eq_true,if_false,List.append_nil] at hstep
        simp -implicitDefEqProofs (maxSteps := 2000000) only [↓ops_nil,↓ops_none,↓ops_some,↓kd_eff,↓dr_nil,↓dr_cons,↓d1_none,↓d1_some,↓eff_store,↓eff_box,↓eff_alloc,↓eff_build,↓eff_buildSlice,↓eff_call,↓eff_append,↓eff_copy,↓eff_cap,↓eff_clear,↓eff_make,↓reduceIte,↓c_condI,↓c_seqH,↓c_blockH,↓then_nH,↓then_rH,↓then_eH,↓block_nH,↓block_rH,↓block_eH,go_sem,c1,c3,hgt,hk5,ByteArray.toList_eq,htx,hw,List.length_map]
        refine ⟨b - 1,[.slice m 6 (l.map nodeSV),str name,i64 i,.any,.any,.any,.any,.slice (.own st.length v) 6 ((partsT (l.take (j + 1)) name i).map nodeSV),i64 ((j + 1 : Nat) : Int),.any,.any,.any,.any,.any,.any,.any,.any,.any,.any,.any,.any,.any,.any,.any,.any,.any,.any,.any,.any,.any,.any,.any,.any,.any,.any,.any,.any,.any,.any,.any,.any,.any],by omega,?_,j + 1,v,by omega,hT,hex,rfl⟩
        rw [hstep]
        repeat (first | exact leEnv_nil | refine leEnv_any _ ?_ | refine leEnv_same _ ?_ | refine leEnv_norm _ ?_)
      | true =>
        rw [hk5,htx] at hstep
        simp only [Bool.and_true,if_true] at hstep
        have hik := hix (by simpa using hk5) (by simpa using htx)
        have c5 : (i : Int) < (x.kids.length : Int) := by omega
        have c6 : (0 : Int) ≤ (i : Int) := by omega
        have hgk := getm nodeSV (l := x.kids) hik
        rw [getd hik] at hstep
        have hap := app24 (n := (partsT (l.take j) name i).length + 1) (by omega)
        simp -implicitDefEqProofs (maxSteps := 2000000) only [↓ops_nil,↓ops_none,↓ops_some,↓kd_eff,↓dr_nil,↓dr_cons,↓d1_none,↓d1_some,↓eff_store,↓eff_box,↓eff_alloc,↓eff_build,↓eff_buildSlice,↓eff_call,↓eff_append,↓eff_copy,↓eff_cap,↓eff_clear,↓eff_make,↓reduceIte,↓c_condI,↓c_seqH,↓c_blockH,↓then_nH,↓then_rH,↓then_eH,↓block_nH,↓block_rH,↓block_eH,go_sem,c1,c3,c5,c6,hgt,hgk,cell_nd,hk5,ByteArray.toList_eq,htx,hw,qt,List.length_map]
        refine ⟨hap,b - 1,[.slice m 6 (l.map nodeSV),str name,i64 i,.any,.any,.any,.any,.slice (.own st.length (v + 1)) 6 ((partsT (l.take (j + 1)) name i).map nodeSV),i64 ((j + 1 : Nat) : Int),.any,.any,.any,.any,.any,.any,.any,.any,.any,.any,.any,.any,.any,.any,.any,.any,.any,.any,.any,.any,.any,.any,.any,.any,.any,.any,.any,.any,.any,.any,.any,.any,.any],by omega,?_,j + 1,v + 1,by omega,set_get (lt_of_get hT),ex_set hex (Nat.le_refl _) _,rfl⟩
        rw [hstep,List.map_append]
        simp only [List.map_cons,List.map_nil]
        repeat (first | exact leEnv_nil | refine leEnv_any _ ?_ | refine leEnv_same _ ?_ | refine leEnv_norm _ ?_)
  obtain rfl : j = l.length := by omega
  have c1 : ((l.length : Int) < (l.length : Int)) = False := eq_false (by omega)
  rw [List.take_length]
  simp -implicitDefEqProofs (maxSteps := 2000000) only [↓ops_nil,↓ops_none,↓ops_some,↓kd_eff,↓dr_nil,↓dr_cons,↓d1_none,↓d1_some,↓eff_store,↓eff_box,↓eff_alloc,↓eff_build,↓eff_buildSlice,↓eff_call,↓eff_append,↓eff_copy,↓eff_cap,↓eff_clear,↓eff_make,↓reduceIte,↓c_condI,↓c_seqH,↓c_blockH,↓then_nH,↓then_rH,↓then_eH,↓block_nH,↓block_rH,↓block_eH,go_sem,c1,List.length_map]
  exact ⟨_,le_imm _ _ _,hex,ids_nodes _ _,h⟩
end Go.Proofs
