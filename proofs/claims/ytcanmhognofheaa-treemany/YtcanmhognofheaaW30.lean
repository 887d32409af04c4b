/- tree.loose, same, find and their like; slices.IndexFunc over columns. -/
import Derived.Test.YtcanmhognofheaaW29
set_option linter.all false
set_option maxHeartbeats 4000000
set_option linter.unusedSimpArgs false
set_option linter.unusedVariables false
set_option maxRecDepth 4000
namespace Go.Proofs
open Go Go.AL
theorem loose23_c (n : Nd) (K : SV → St → Prop) (st : St) (h : K (.sc (.bool (looseB n))) st) : ACalls Try.prog 23 [nodeSV n] K st := by
  refine acalls_go_pure [] Try.func23 rfl Try.results23 Try.ntmps23 ?_
  rw [nodeSV_eq]
  simp only [go_sem,imp_self,implies_true,reduceCtorEq,false_imp_iff,true_imp_iff,decide_true,decide_false,Int.toNat_natCast,Int.toNat_zero,Int.toNat_one,Int.natCast_nonneg,Int.le_refl,Nat.le_refl,Nat.reduceAdd,Nat.reduceMul,Nat.reduceLeDiff,Nat.reduceLT,Int.reduceLE,Int.reduceLT,Nat.reduceBEq,Nat.reduceEqDiff,Bool.not_true,Bool.not_false,Bool.and_false,Bool.false_and,Bool.or_true,Bool.true_or,Bool.or_false,Bool.false_or,call_func,c_draw,c_loop,FinK,Bool.not_eq_eq_eq_not]
  exact h
theorem loose31_c (n : Nd) (K : SV → St → Prop) (st : St) (h : K (.sc (.bool (looseB n))) st) : ACalls Try.prog 31 [nodeSV n] K st := by
  refine acalls_go_pure [] Try.func31 rfl Try.results31 Try.ntmps31 ?_
  rw [nodeSV_eq]
  simp only [go_sem,imp_self,implies_true,reduceCtorEq,false_imp_iff,true_imp_iff,decide_true,decide_false,Int.toNat_natCast,Int.toNat_zero,Int.toNat_one,Int.natCast_nonneg,Int.le_refl,Nat.le_refl,Nat.reduceAdd,Nat.reduceMul,Nat.reduceLeDiff,Nat.reduceLT,Int.reduceLE,Int.reduceLT,Nat.reduceBEq,Nat.reduceEqDiff,Bool.not_true,Bool.not_false,Bool.and_false,Bool.false_and,Bool.or_true,Bool.true_or,Bool.or_false,Bool.false_or,call_func,c_draw,c_loop,FinK,Bool.not_eq_eq_eq_not]
  exact h
theorem loose61_c (n : Nd) (K : SV → St → Prop) (st : St) (h : K (.sc (.bool (looseB n))) st) : ACalls Try.prog 61 [nodeSV n] K st := by
  refine acalls_go_pure [] Try.func61 rfl Try.results61 Try.ntmps61 ?_
  rw [nodeSV_eq]
  simp only [go_sem,imp_self,implies_true,reduceCtorEq,false_imp_iff,true_imp_iff,decide_true,decide_false,Int.toNat_natCast,Int.toNat_zero,Int.toNat_one,Int.natCast_nonneg,Int.le_refl,Nat.le_refl,Nat.reduceAdd,Nat.reduceMul,Nat.reduceLeDiff,Nat.reduceLT,Int.reduceLE,Int.reduceLT,Nat.reduceBEq,Nat.reduceEqDiff,Bool.not_true,Bool.not_false,Bool.and_false,Bool.false_and,Bool.or_true,Bool.true_or,Bool.or_false,Bool.false_or,call_func,c_draw,c_loop,FinK,Bool.not_eq_eq_eq_not]
  exact h
theorem same53_c (a b : Nd) (K : SV → St → Prop) (st : St) (h : K (.sc (.bool (sameB a b))) st) : ACalls Try.prog 53 [nodeSV a,nodeSV b] K st := by
  refine acalls_go_pure [] Try.func53 rfl Try.results53 Try.ntmps53 ?_
  rw [nodeSV_eq,nodeSV_eq]
  simp only [go_sem,imp_self,implies_true,reduceCtorEq,false_imp_iff,true_imp_iff,decide_true,decide_false,Int.toNat_natCast,Int.toNat_zero,Int.toNat_one,Int.natCast_nonneg,Int.le_refl,Nat.le_refl,Nat.reduceAdd,Nat.reduceMul,Nat.reduceLeDiff,Nat.reduceLT,Int.reduceLE,Int.reduceLT,Nat.reduceBEq,Nat.reduceEqDiff,Bool.not_true,Bool.not_false,Bool.and_false,Bool.false_and,Bool.or_true,Bool.true_or,Bool.or_false,Bool.false_or,call_func,c_draw,c_loop,FinK]
  exact h
theorem same63_c (a b : Nd) (K : SV → St → Prop) (st : St) (h : K (.sc (.bool (sameB a b))) st) : ACalls Try.prog 63 [nodeSV a,nodeSV b] K st := by
  refine acalls_go_pure [] Try.func63 rfl Try.results63 Try.ntmps63 ?_
  rw [nodeSV_eq,nodeSV_eq]
  simp only [go_sem,imp_self,implies_true,reduceCtorEq,false_imp_iff,true_imp_iff,decide_true,decide_false,Int.toNat_natCast,Int.toNat_zero,Int.toNat_one,Int.natCast_nonneg,Int.le_refl,Nat.le_refl,Nat.reduceAdd,Nat.reduceMul,Nat.reduceLeDiff,Nat.reduceLT,Int.reduceLE,Int.reduceLT,Nat.reduceBEq,Nat.reduceEqDiff,Bool.not_true,Bool.not_false,Bool.and_false,Bool.false_and,Bool.or_true,Bool.true_or,Bool.or_false,Bool.false_or,call_func,c_draw,c_loop,FinK]
  exact h
theorem heads1_c (c d : Nd) (id : Nat) (K : SV → St → Prop) (st : St) (hi : isObj st id) (ho : objAt st id = (nodeSV d).cells) (h : K (.sc (.bool (sameB c d))) st) : ACalls Try.prog 52 [nodeSV c,.ptr id 0] K st := by
  refine acalls_go_pure [] Try.func52 rfl Try.results52 Try.ntmps52 ?_
  have hi' : isObj st id = True := eq_true hi
  simp only [go_sem,imp_self,implies_true,reduceCtorEq,false_imp_iff,true_imp_iff,decide_true,decide_false,Int.toNat_natCast,Int.toNat_zero,Int.toNat_one,Int.natCast_nonneg,Int.le_refl,Nat.le_refl,Nat.reduceAdd,Nat.reduceMul,Nat.reduceLeDiff,Nat.reduceLT,Int.reduceLE,Int.reduceLT,Nat.reduceBEq,Nat.reduceEqDiff,Bool.not_true,Bool.not_false,Bool.and_false,Bool.false_and,Bool.or_true,Bool.true_or,Bool.or_false,Bool.false_or,call_func,c_draw,c_loop,FinK,hi',ho,cell_nd]
  refine same53_c c d _ _ ?_
  simp only [go_sem,imp_self,implies_true,reduceCtorEq,false_imp_iff,true_imp_iff,decide_true,decide_false,Int.toNat_natCast,Int.toNat_zero,Int.toNat_one,Int.natCast_nonneg,Int.le_refl,Nat.le_refl,Nat.reduceAdd,Nat.reduceMul,Nat.reduceLeDiff,Nat.reduceLT,Int.reduceLE,Int.reduceLT,Nat.reduceBEq,Nat.reduceEqDiff,Bool.not_true,Bool.not_false,Bool.and_false,Bool.false_and,Bool.or_true,Bool.true_or,Bool.or_false,Bool.false_or,call_func,c_draw,c_loop,FinK]
  exact h
theorem find60_c (c : Cn) (name : ByteArray) (K : SV → St → Prop) (st : St) (h : K (.sc (.bool (c.name.toList == name.toList))) st) : ACalls Try.prog 60 [conSV c,.ref [.sc (.string name)]] K st := by
  refine acalls_go_pure [] Try.func60 rfl Try.results60 Try.ntmps60 ?_
  simp only [go_sem,imp_self,implies_true,reduceCtorEq,false_imp_iff,true_imp_iff,decide_true,decide_false,Int.toNat_natCast,Int.toNat_zero,Int.toNat_one,Int.natCast_nonneg,Int.le_refl,Nat.le_refl,Nat.reduceAdd,Nat.reduceMul,Nat.reduceLeDiff,Nat.reduceLT,Int.reduceLE,Int.reduceLT,Nat.reduceBEq,Nat.reduceEqDiff,Bool.not_true,Bool.not_false,Bool.and_false,Bool.false_and,Bool.or_true,Bool.true_or,Bool.or_false,Bool.false_or,call_func,c_draw,c_loop,FinK]
  exact h
def BAt (s : St) (id : Nat) (cons : List Cn) (m : Int) : Prop := s[id]? = some (.cells [.slice .imm 5 (cons.map conSV),i64 m])
theorem find26_c (cons : List Cn) (hb : cons.length ≤ 1000000) (id : Nat) (m : Int) (name : ByteArray) (K : SV → St → Prop) (st : St) (hB : BAt st id cons m) (h : K (conSV ((findC cons name).getD default)) st) :
    ACalls Try.prog 26 [.ptr id 0,str name] K st := by
  refine acalls_go_pure [] Try.func26 rfl Try.results26 Try.ntmps26 ?_
  have q := cells_facts hB
  simp -implicitDefEqProofs (maxSteps := 2000000) only [↓ops_nil,↓ops_none,↓ops_some,↓kd_eff,↓dr_nil,↓dr_cons,↓d1_none,↓d1_some,↓eff_store,↓eff_box,↓eff_alloc,↓eff_build,↓eff_buildSlice,↓eff_call,↓eff_append,↓eff_copy,↓eff_cap,↓eff_clear,↓eff_make,↓reduceIte,↓c_condI,↓c_seqH,↓c_blockH,↓then_nH,↓then_rH,↓then_eH,↓block_nH,↓block_rH,↓block_eH,go_sem,q.1,q.2.1,q.2.2]
  refine index43_c _ _ (pName name) 60 _ Try.abody60 (fun x hx => ?_) (by simpa using hb) _ (fun x hx K h => ?_) _ ?_
  · obtain ⟨c,_,rfl⟩ := List.mem_map.1 hx
    exact cellsOf_con c Try.aagg41 Try.asize41
  · obtain ⟨c,_,rfl⟩ := List.mem_map.1 hx
    exact find60_c c name K _ h
  · rw [idxOf_map (fun c => c.name.toList == name.toList) _ (fun c => rfl)]
    cases hf : cons.findIdx? (fun c => c.name.toList == name.toList) with
    | none =>
      have e : findC cons name = none := by
        rw [List.findIdx?_eq_none_iff] at hf
        exact List.find?_eq_none.2 fun x hx => by rw [hf x hx]; decide
      rw [e] at h
      have d1 : ((-1 : Int) < 0) = True := eq_true (by omega)
      simp -implicitDefEqProofs (maxSteps := 2000000) only [↓ops_nil,↓ops_none,↓ops_some,↓kd_eff,↓dr_nil,↓dr_cons,↓d1_none,↓d1_some,↓eff_store,↓eff_box,↓eff_alloc,↓eff_build,↓eff_buildSlice,↓eff_call,↓eff_append,↓eff_copy,↓eff_cap,↓eff_clear,↓eff_make,↓reduceIte,↓c_condI,↓c_seqH,↓c_blockH,↓then_nH,↓then_rH,↓then_eH,↓block_nH,↓block_rH,↓block_eH,go_sem,d1,q.1,q.2.1,q.2.2,FinK]
      exact h
    | some i =>
      rw [List.findIdx?_eq_some_iff_getElem] at hf
      obtain ⟨hi,hp,hno⟩ := hf
      have e : findC cons name = some cons[i] := by
        unfold findC
        rw [List.find?_eq_some_iff_getElem]
        exact ⟨hp,i,hi,rfl,fun j hj => by simpa using hno j hj⟩
      rw [e] at h
      have d1 : ((i : Int) < 0) = False := eq_false (by omega)
      have d2 : (i : Int) < (cons.length : Int) := by omega
      have eg := getm conSV hi
      simp -implicitDefEqProofs (maxSteps := 2000000) only [↓ops_nil,↓ops_none,↓ops_some,↓kd_eff,↓dr_nil,↓dr_cons,↓d1_none,↓d1_some,↓eff_store,↓eff_box,↓eff_alloc,↓eff_build,↓eff_buildSlice,↓eff_call,↓eff_append,↓eff_copy,↓eff_cap,↓eff_clear,↓eff_make,↓reduceIte,↓c_condI,↓c_seqH,↓c_blockH,↓then_nH,↓then_rH,↓then_eH,↓block_nH,↓block_rH,↓block_eH,go_sem,d1,d2,eg,q.1,q.2.1,q.2.2,FinK,List.length_map]
      exact h
theorem index21_c (m : AL.Mode) (l : List Cel) (q : Cel → Bool) (g : FuncId) (hg : aBody Try.prog g = true) (hlen : l.length ≤ 1000000) (st : St)
    (hp : ∀ x ∈ l,∀ K : SV → St → Prop,K (.sc (.bool (q x))) st → ACalls Try.prog g [celSV x] K st) (K : SV → St → Prop) (h : K (i64 (idxA q l)) st) :
    ACalls Try.prog 21 [.slice m 7 (l.map celSV),.func (.func g) [] []] K st := by
  refine acalls_go_pure [] Try.func21 rfl Try.results21 Try.ntmps21 ?_
  simp -implicitDefEqProofs (maxSteps := 2000000) only [↓ops_nil,↓ops_none,↓ops_some,↓kd_eff,↓dr_nil,↓dr_cons,↓d1_none,↓d1_some,↓eff_store,↓eff_box,↓eff_alloc,↓eff_build,↓eff_buildSlice,↓eff_call,↓eff_append,↓eff_copy,↓eff_cap,↓eff_clear,↓eff_make,↓reduceIte,↓c_condI,↓c_seqH,↓c_blockH,↓then_nH,↓then_rH,↓then_eH,↓block_nH,↓block_rH,↓block_eH,go_sem,List.length_map]
  refine awp_rounds [] (fun b e s => ∃ k,k + b = l.length ∧ (∀ j,j < k → ∀ x,l[j]? = some x → q x = false) ∧ e = [.slice m 7 (l.map celSV),.func (.func g) [] [],.any,.any,.any,.any,.any,i64 l.length,i64 k,.any,.any,.any,.any,.any,.any,.any,.any,.any,.any] ∧ s = st) (n := l.length) ?_ ⟨0,by omega,fun j hj => absurd hj (Nat.not_lt_zero _),rfl,rfl⟩ ?_
  · repeat (first | exact leEnv_nil | refine leEnv_any _ ?_ | refine leEnv_same _ ?_ | refine leEnv_norm _ ?_)
  rintro b e s ⟨k,hk,hno,rfl,rfl⟩
  by_cases hlt : k < l.length
  · have c1 : (k : Int) < (l.length : Int) := by omega
    have hw := wrap1 (k := k) (by omega)
    have hgt := getm celSV hlt
    have hcell := cell_cel l[k]
    have hmem : l[k] ∈ l := List.getElem_mem hlt
    rcases (Bool.eq_false_or_eq_true (q l[k])).symm with hL | hL
    · simp -implicitDefEqProofs (maxSteps := 2000000) only [↓ops_nil,↓ops_none,↓ops_some,↓kd_eff,↓dr_nil,↓dr_cons,↓d1_none,↓d1_some,↓eff_store,↓eff_box,↓eff_alloc,↓eff_build,↓eff_buildSlice,↓eff_call,↓eff_append,↓eff_copy,↓eff_cap,↓eff_clear,↓eff_make,↓reduceIte,↓c_condI,↓c_seqH,↓c_blockH,↓then_nH,↓then_rH,↓then_eH,↓block_nH,↓block_rH,↓block_eH,go_sem,c1,hw,hgt,hg,hcell,List.length_map]
      refine hp _ hmem _ ?_
      rw [hL]
      simp -implicitDefEqProofs (maxSteps := 2000000) only [↓ops_nil,↓ops_none,↓ops_some,↓kd_eff,↓dr_nil,↓dr_cons,↓d1_none,↓d1_some,↓eff_store,↓eff_box,↓eff_alloc,↓eff_build,↓eff_buildSlice,↓eff_call,↓eff_append,↓eff_copy,↓eff_cap,↓eff_clear,↓eff_make,↓reduceIte,↓c_condI,↓c_seqH,↓c_blockH,↓then_nH,↓then_rH,↓then_eH,↓block_nH,↓block_rH,↓block_eH,go_sem,hw]
      refine ⟨b - 1,_,by omega,?_,k + 1,by omega,fun j hj x hx => ?_,rfl⟩
      · repeat (first | exact leEnv_nil | refine leEnv_any _ ?_ | refine leEnv_same _ ?_ | refine leEnv_norm _ ?_)
      · by_cases e : j = k
        · subst e
          rw [List.getElem?_eq_getElem hlt] at hx
          cases hx
          exact hL
        · exact hno j (by omega) x hx
    · simp -implicitDefEqProofs (maxSteps := 2000000) only [↓ops_nil,↓ops_none,↓ops_some,↓kd_eff,↓dr_nil,↓dr_cons,↓d1_none,↓d1_some,↓eff_store,↓eff_box,↓eff_alloc,↓eff_build,↓eff_buildSlice,↓eff_call,↓eff_append,↓eff_copy,↓eff_cap,↓eff_clear,↓eff_make,↓reduceIte,↓c_condI,↓c_seqH,↓c_blockH,↓then_nH,↓then_rH,↓then_eH,↓block_nH,↓block_rH,↓block_eH,go_sem,c1,hw,hgt,hg,hcell,List.length_map]
      refine hp _ hmem _ ?_
      rw [hL]
      rw [idxA_some hlt hno hL] at h
      simp -implicitDefEqProofs (maxSteps := 2000000) only [↓ops_nil,↓ops_none,↓ops_some,↓kd_eff,↓dr_nil,↓dr_cons,↓d1_none,↓d1_some,↓eff_store,↓eff_box,↓eff_alloc,↓eff_build,↓eff_buildSlice,↓eff_call,↓eff_append,↓eff_copy,↓eff_cap,↓eff_clear,↓eff_make,↓reduceIte,↓c_condI,↓c_seqH,↓c_blockH,↓then_nH,↓then_rH,↓then_eH,↓block_nH,↓block_rH,↓block_eH,go_sem]
      exact fin_sc h
  · obtain rfl : k = l.length := by omega
    have c1 : ((l.length : Int) < (l.length : Int)) = False := eq_false (by omega)
    rw [idxA_none hno] at h
    simp -implicitDefEqProofs (maxSteps := 2000000) only [↓ops_nil,↓ops_none,↓ops_some,↓kd_eff,↓dr_nil,↓dr_cons,↓d1_none,↓d1_some,↓eff_store,↓eff_box,↓eff_alloc,↓eff_build,↓eff_buildSlice,↓eff_call,↓eff_append,↓eff_copy,↓eff_cap,↓eff_clear,↓eff_make,↓reduceIte,↓c_condI,↓c_seqH,↓c_blockH,↓then_nH,↓then_rH,↓then_eH,↓block_nH,↓block_rH,↓block_eH,go_sem,c1]
    exact fin_sc h
theorem build1_c (c : Cel) (K : SV → St → Prop) (st : St) (h : K (.sc (.bool (!looseB c.pat))) st) : ACalls Try.prog 22 [celSV c] K st := by
  refine acalls_go_pure [] Try.func22 rfl Try.results22 Try.ntmps22 ?_
  simp -implicitDefEqProofs (maxSteps := 2000000) only [↓ops_nil,↓ops_none,↓ops_some,↓kd_eff,↓dr_nil,↓dr_cons,↓d1_none,↓d1_some,↓eff_store,↓eff_box,↓eff_alloc,↓eff_build,↓eff_buildSlice,↓eff_call,↓eff_append,↓eff_copy,↓eff_cap,↓eff_clear,↓eff_make,↓reduceIte,↓c_condI,↓c_seqH,↓c_blockH,↓then_nH,↓then_rH,↓then_eH,↓block_nH,↓block_rH,↓block_eH,go_sem,celSV,agg_nd]
  refine loose23_c _ _ _ ?_
  simp -implicitDefEqProofs (maxSteps := 2000000) only [↓ops_nil,↓ops_none,↓ops_some,↓kd_eff,↓dr_nil,↓dr_cons,↓d1_none,↓d1_some,↓eff_store,↓eff_box,↓eff_alloc,↓eff_build,↓eff_buildSlice,↓eff_call,↓eff_append,↓eff_copy,↓eff_cap,↓eff_clear,↓eff_make,↓reduceIte,↓c_condI,↓c_seqH,↓c_blockH,↓then_nH,↓then_rH,↓then_eH,↓block_nH,↓block_rH,↓block_eH,go_sem]
  exact fin_sc h
end Go.Proofs
