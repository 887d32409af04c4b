/- selvageref02.SameInts, selvageref10.Same: when they are the same. -/
import Derived.Test.YtcanmhognofheaaW45
set_option linter.all false
set_option maxHeartbeats 8000000
set_option linter.unusedSimpArgs false
set_option linter.unusedVariables false
set_option maxRecDepth 8000
namespace Go.Proofs
open Go Go.AL
theorem ba_ext {a b : ByteArray} (h : a.data.toList = b.data.toList) : a = b := by
  cases a with
  | mk x =>
    cases b with
    | mk y =>
      congr 1
      cases x; cases y
      exact congrArg Array.mk h
mutual
theorem sameT_eq : ∀ a b : Tr,sameT a b = true → a = b
  | .mk r p c q,.mk r' p' c' q' => fun h => by
    rw [sameT] at h
    simp only [Bool.and_eq_true,beq_iff_eq] at h
    obtain ⟨⟨⟨h1,h2⟩,h3⟩,h4⟩ := h
    rw [h1,h2,sameCs_eq c c' h3,sameTs_eq q q' h4]
theorem sameCs_eq : ∀ a b : List Cs,sameCs a b = true → a = b
  | [],[],_ => rfl
  | .mk c n t :: l,.mk c' n' t' :: l',h => by
    rw [sameCs] at h
    simp only [Bool.and_eq_true,beq_iff_eq] at h
    obtain ⟨⟨⟨h1,h2⟩,h3⟩,h4⟩ := h
    rw [sameT_eq t t' h1,ba_ext h2,h3,sameCs_eq l l' h4]
  | [],.mk _ _ _ :: _,h => by cases h
  | .mk _ _ _ :: _,[],h => by cases h
theorem sameTs_eq : ∀ a b : List Tr,sameTs a b = true → a = b
  | [],[],_ => rfl
  | t :: l,t' :: l',h => by
    rw [sameTs] at h
    simp only [Bool.and_eq_true] at h
    rw [sameT_eq t t' h.1,sameTs_eq l l' h.2]
  | [],_ :: _,h => by cases h
  | _ :: _,[],h => by cases h
end
theorem sameInts_c (m1 m2 : AL.Mode) (l : List Int) (hl : l.length ≤ 1000) (K : SV → St → Prop) (st : St) (h : K (.sc (.bool true)) st) : ACalls Try.prog 14 [.slice m1 1 (l.map i64),.slice m2 1 (l.map i64)] K st := by
  refine acalls_go_pure [] Try.func14 rfl Try.results14 Try.ntmps14 ?_
  have ne1 : ∀ x : Int,(x != x) = false := fun x => by simp
  simp -implicitDefEqProofs (maxSteps := 2000000) only [↓ops_nil,↓ops_none,↓ops_some,↓kd_eff,↓dr_nil,↓dr_cons,↓d1_none,↓d1_some,↓eff_store,↓eff_box,↓eff_alloc,↓eff_build,↓eff_buildSlice,↓eff_call,↓eff_append,↓eff_copy,↓eff_cap,↓eff_clear,↓eff_make,↓reduceIte,↓c_condI,↓c_seqH,↓c_blockH,↓then_nH,↓then_rH,↓then_eH,↓block_nH,↓block_rH,↓block_eH,go_sem,ne1,List.length_map]
  refine awp_rounds [] (fun b e s => ∃ k,k + b = l.length ∧ s = st ∧ e = [.slice m1 1 (l.map i64),.slice m2 1 (l.map i64),.any,.any,.any,i64 k,.any,.any,.any,.any,.any,.any,.any,.any,.any,.any,.any,.any,.any,.any,.any,.any,.any,.any,.any,.any]) (n := l.length) ?_ ⟨0,by omega,rfl,rfl⟩ ?_
  · repeat (first | exact leEnv_nil | refine leEnv_any _ ?_ | refine leEnv_same _ ?_ | refine leEnv_norm _ ?_)
  rintro b e s ⟨k,hk,rfl,rfl⟩
  by_cases hlt : k < l.length
  · have c1 : (k : Int) < (l.length : Int) := by omega
    have c3 : (0 : Int) ≤ (k : Int) := by omega
    have hgt := getm i64 hlt
    have hw := wrap1 (k := k) (by omega)
    simp -implicitDefEqProofs (maxSteps := 2000000) only [↓ops_nil,↓ops_none,↓ops_some,↓kd_eff,↓dr_nil,↓dr_cons,↓d1_none,↓d1_some,↓eff_store,↓eff_box,↓eff_alloc,↓eff_build,↓eff_buildSlice,↓eff_call,↓eff_append,↓eff_copy,↓eff_cap,↓eff_clear,↓eff_make,↓reduceIte,↓c_condI,↓c_seqH,↓c_blockH,↓then_nH,↓then_rH,↓then_eH,↓block_nH,↓block_rH,↓block_eH,go_sem,c1,List.length_map]
    refine awp_drawH [] Try.mixed rfl fun R hR => ?_
    simp -implicitDefEqProofs (maxSteps := 2000000) only [↓ops_nil,↓ops_none,↓ops_some,↓kd_eff,↓dr_nil,↓dr_cons,↓d1_none,↓d1_some,↓eff_store,↓eff_box,↓eff_alloc,↓eff_build,↓eff_buildSlice,↓eff_call,↓eff_append,↓eff_copy,↓eff_cap,↓eff_clear,↓eff_make,↓reduceIte,↓c_condI,↓c_seqH,↓c_blockH,↓then_nH,↓then_rH,↓then_eH,↓block_nH,↓block_rH,↓block_eH,go_sem,c1,c3,hgt,ne1,List.length_map]
    rw [hR]
    simp -implicitDefEqProofs (maxSteps := 2000000) only [↓ops_nil,↓ops_none,↓ops_some,↓kd_eff,↓dr_nil,↓dr_cons,↓d1_none,↓d1_some,↓eff_store,↓eff_box,↓eff_alloc,↓eff_build,↓eff_buildSlice,↓eff_call,↓eff_append,↓eff_copy,↓eff_cap,↓eff_clear,↓eff_make,↓reduceIte,↓c_condI,↓c_seqH,↓c_blockH,↓then_nH,↓then_rH,↓then_eH,↓block_nH,↓block_rH,↓block_eH,go_sem,hw]
    refine ⟨b - 1,[.slice m1 1 (l.map i64),.slice m2 1 (l.map i64),.any,.any,.any,i64 ((k + 1 : Nat) : Int),.any,.any,.any,.any,.any,.any,.any,.any,.any,.any,.any,.any,.any,.any,.any,.any,.any,.any,.any,.any],by omega,?_,k + 1,by omega,rfl⟩
    repeat (first | exact leEnv_nil | refine leEnv_any _ ?_ | refine leEnv_same _ ?_ | refine leEnv_norm _ ?_)
  obtain rfl : k = l.length := by omega
  have c1 : ((l.length : Int) < (l.length : Int)) = False := eq_false (by omega)
  simp -implicitDefEqProofs (maxSteps := 2000000) only [↓ops_nil,↓ops_none,↓ops_some,↓kd_eff,↓dr_nil,↓dr_cons,↓d1_none,↓d1_some,↓eff_store,↓eff_box,↓eff_alloc,↓eff_build,↓eff_buildSlice,↓eff_call,↓eff_append,↓eff_copy,↓eff_cap,↓eff_clear,↓eff_make,↓reduceIte,↓c_condI,↓c_seqH,↓c_blockH,↓then_nH,↓then_rH,↓then_eH,↓block_nH,↓block_rH,↓block_eH,go_sem,c1,List.length_map]
  exact fin_sc h
namespace Cs
def tree : Cs → Tr | .mk _ _ t => t
def con : Cs → ByteArray | .mk c _ _ => c
def number : Cs → Int | .mk _ n _ => n
end Cs
def csSV (x : Cs) : SV := .agg (str x.con :: i64 x.number :: trC x.tree)
theorem csL_map : ∀ l : List Cs,csL l = l.map csSV
  | [] => rfl
  | .mk c n t :: l => by simp only [csL,List.map_cons,csL_map l]; rfl
theorem trL_map : ∀ l : List Tr,trL l = l.map trSV
  | [] => rfl
  | t :: l => by simp only [trL,List.map_cons,trL_map l]; rfl
theorem few_cs : ∀ {l : List Cs},fewCs l = true → ∀ x ∈ l,fewT x.tree = true
  | .mk c n t :: l,h,x,hx => by
    rw [fewCs] at h
    simp only [Bool.and_eq_true] at h
    rcases List.mem_cons.1 hx with rfl | hx
    · exact h.1
    · exact few_cs h.2 x hx
theorem few_ts : ∀ {l : List Tr},fewTs l = true → ∀ x ∈ l,fewT x = true
  | t :: l,h,x,hx => by
    rw [fewTs] at h
    simp only [Bool.and_eq_true] at h
    rcases List.mem_cons.1 hx with rfl | hx
    · exact h.1
    · exact few_ts h.2 x hx
theorem size_cs {x : Cs} {l : List Cs} (h : x ∈ l) : SizeOf.sizeOf x.tree < SizeOf.sizeOf l := by
  have h1 := List.sizeOf_lt_of_mem h
  cases x with
  | mk c n t =>
    have : SizeOf.sizeOf (Cs.mk c n t) = 1 + SizeOf.sizeOf c + SizeOf.sizeOf n + SizeOf.sizeOf t := rfl
    show SizeOf.sizeOf t < _
    omega
def SameTo (n : Nat) : Prop := ∀ t : Tr,SizeOf.sizeOf t < n → fewT t = true → ∀ (K : SV → St → Prop) (st : St),K (.sc (.bool true)) st → ACalls Try.prog 8 [trSV t,trSV t] K st
theorem same_step (n : Nat) (ih : SameTo n) : SameTo (n + 1) := by
  intro t hn hf K st h
  cases t with
  | mk r p cs q =>
    have hsz : SizeOf.sizeOf (Tr.mk r p cs q) = 1 + SizeOf.sizeOf r + SizeOf.sizeOf p + SizeOf.sizeOf cs + SizeOf.sizeOf q := by rw [Tr.mk.sizeOf_spec]
    rw [fewT] at hf
    simp only [Bool.and_eq_true,decide_eq_true_eq] at hf
    obtain ⟨⟨⟨⟨hp,hc⟩,hq⟩,hfc⟩,hft⟩ := hf
    have htr : trSV (.mk r p cs q) = .agg [i64 r,.slice .imm 1 (p.map i64),.slice .imm 6 (cs.map csSV),.slice .imm 4 (q.map trSV)] := by
      show SV.agg [i64 r,.slice .imm 1 (p.map i64),.slice .imm 6 (csL cs),.slice .imm 4 (trL q)] = _
      rw [csL_map,trL_map]
    rw [htr]
    have ne1 : ∀ x : Int,(x != x) = false := fun x => by simp
    have ne2 : ∀ x : List UInt8,(x != x) = false := fun x => by simp
    have ne3 : ∀ x : List UInt8,(x == x) = true := fun x => by simp
    refine acalls_go_pure [] Try.func8 rfl Try.results8 Try.ntmps8 ?_
    simp -implicitDefEqProofs (maxSteps := 2000000) only [↓ops_nil,↓ops_none,↓ops_some,↓kd_eff,↓dr_nil,↓dr_cons,↓d1_none,↓d1_some,↓eff_store,↓eff_box,↓eff_alloc,↓eff_build,↓eff_buildSlice,↓eff_call,↓eff_append,↓eff_copy,↓eff_cap,↓eff_clear,↓eff_make,↓reduceIte,↓c_condI,↓c_seqH,↓c_blockH,↓then_nH,↓then_rH,↓then_eH,↓block_nH,↓block_rH,↓block_eH,go_sem,ne1,List.length_map]
    refine sameInts_c .imm .imm p hp _ _ ?_
    simp -implicitDefEqProofs (maxSteps := 2000000) only [↓ops_nil,↓ops_none,↓ops_some,↓kd_eff,↓dr_nil,↓dr_cons,↓d1_none,↓d1_some,↓eff_store,↓eff_box,↓eff_alloc,↓eff_build,↓eff_buildSlice,↓eff_call,↓eff_append,↓eff_copy,↓eff_cap,↓eff_clear,↓eff_make,↓reduceIte,↓c_condI,↓c_seqH,↓c_blockH,↓then_nH,↓then_rH,↓then_eH,↓block_nH,↓block_rH,↓block_eH,go_sem,ne1,List.length_map]
    refine awp_rounds [] (fun b e s => ∃ k,k + b = cs.length ∧ s = st ∧ e = [.any,.any,.ref [i64 r,.slice .imm 1 (p.map i64),.slice .imm 6 (cs.map csSV),.slice .imm 4 (q.map trSV)],.ref [i64 r,.slice .imm 1 (p.map i64),.slice .imm 6 (cs.map csSV),.slice .imm 4 (q.map trSV)],.any,.any,i64 k,.any,.any,.any,.any,.any,.any,.any,.any,.any,.any,.any,.any,.any,.any,.any,.any,.any,.any,.any,.any,.any,.any,.any,.any,.any,.any,.any,.any,.any,.any,.any,.any,.any,.any,.any,.any,.any,.any,.any,.any,.any,.any,.any,.any,.any,.any,.any,.any,.any,.any,.any,.any,.any,.any,.any,.any,.any,.any,.any,.any,.any,.any,.any,.any,.any,.any,.any,.any,.any,.any,.any,.any,.any,.any,.any,.any,.any,.any,.any,.any,.any,.any,.any,.any,.any,.any,.any,.any,.any,.any,.any,.any,.any,.any,.any,.any,.any,.any,.any,.any,.any,.any,.any,.any,.any,.any,.any]) (n := cs.length) ?_ ⟨0,by omega,rfl,rfl⟩ ?_
    · repeat (first | exact leEnv_nil | refine leEnv_any _ ?_ | refine leEnv_same _ ?_ | refine leEnv_norm _ ?_)
    rintro b e s ⟨k,hk,rfl,rfl⟩
    by_cases hlt : k < cs.length
    · have c1 : (k : Int) < (cs.length : Int) := by omega
      have c3 : (0 : Int) ≤ (k : Int) := by omega
      have hgt := getm csSV hlt
      have hw := wrap1 (k := k) (by omega)
      have hmem : cs[k] ∈ cs := List.getElem_mem hlt
      have hfx := few_cs hfc _ hmem
      have hsx := size_cs hmem
      obtain ⟨x,hx⟩ : ∃ x,cs[k] = x := ⟨_,rfl⟩
      rw [hx] at hgt hfx hsx
      have hih := ih x.tree (by omega) hfx
      obtain ⟨r',p',cs',q',hxt,ht'⟩ := trC_eq x.tree
      have hcsx : csSV x = .agg [str x.con,i64 x.number,i64 r',.slice .imm 1 (p'.map i64),.slice .imm 6 (csL cs'),.slice .imm 4 (trL q')] := by unfold csSV; rw [ht']
      unfold trSV at hih
      rw [ht'] at hih
      simp -implicitDefEqProofs (maxSteps := 2000000) only [↓ops_nil,↓ops_none,↓ops_some,↓kd_eff,↓dr_nil,↓dr_cons,↓d1_none,↓d1_some,↓eff_store,↓eff_box,↓eff_alloc,↓eff_build,↓eff_buildSlice,↓eff_call,↓eff_append,↓eff_copy,↓eff_cap,↓eff_clear,↓eff_make,↓reduceIte,↓c_condI,↓c_seqH,↓c_blockH,↓then_nH,↓then_rH,↓then_eH,↓block_nH,↓block_rH,↓block_eH,go_sem,c1,List.length_map]
      refine awp_drawH [] Try.mixed rfl fun R hR => ?_
      simp -implicitDefEqProofs (maxSteps := 2000000) only [↓ops_nil,↓ops_none,↓ops_some,↓kd_eff,↓dr_nil,↓dr_cons,↓d1_none,↓d1_some,↓eff_store,↓eff_box,↓eff_alloc,↓eff_build,↓eff_buildSlice,↓eff_call,↓eff_append,↓eff_copy,↓eff_cap,↓eff_clear,↓eff_make,↓reduceIte,↓c_condI,↓c_seqH,↓c_blockH,↓then_nH,↓then_rH,↓then_eH,↓block_nH,↓block_rH,↓block_eH,go_sem,c1,c3,hgt,hcsx,List.length_map]
      rw [dk_eff]
      refine ⟨.sc (.bool true),?_,?_⟩
      · simp -implicitDefEqProofs (maxSteps := 2000000) only [↓ops_nil,↓ops_none,↓ops_some,↓kd_eff,↓dr_nil,↓dr_cons,↓d1_none,↓d1_some,↓eff_store,↓eff_box,↓eff_alloc,↓eff_build,↓eff_buildSlice,↓eff_call,↓eff_append,↓eff_copy,↓eff_cap,↓eff_clear,↓eff_make,↓reduceIte,↓c_condI,↓c_seqH,↓c_blockH,↓then_nH,↓then_rH,↓then_eH,↓block_nH,↓block_rH,↓block_eH,go_sem]
        refine hih _ _ ?_
        exact kept_sc
      rw [hR]
      simp -implicitDefEqProofs (maxSteps := 2000000) only [↓ops_nil,↓ops_none,↓ops_some,↓kd_eff,↓dr_nil,↓dr_cons,↓d1_none,↓d1_some,↓eff_store,↓eff_box,↓eff_alloc,↓eff_build,↓eff_buildSlice,↓eff_call,↓eff_append,↓eff_copy,↓eff_cap,↓eff_clear,↓eff_make,↓reduceIte,↓c_condI,↓c_seqH,↓c_blockH,↓then_nH,↓then_rH,↓then_eH,↓block_nH,↓block_rH,↓block_eH,go_sem]
      refine awp_drawH [] Try.mixed rfl fun R2 hR2 => ?_
      simp -implicitDefEqProofs (maxSteps := 2000000) only [↓ops_nil,↓ops_none,↓ops_some,↓kd_eff,↓dr_nil,↓dr_cons,↓d1_none,↓d1_some,↓eff_store,↓eff_box,↓eff_alloc,↓eff_build,↓eff_buildSlice,↓eff_call,↓eff_append,↓eff_copy,↓eff_cap,↓eff_clear,↓eff_make,↓reduceIte,↓c_condI,↓c_seqH,↓c_blockH,↓then_nH,↓then_rH,↓then_eH,↓block_nH,↓block_rH,↓block_eH,go_sem,c1,c3,hgt,hcsx,ne1,ne3,ByteArray.toList_eq,Bool.not_true,List.length_map]
      rw [hR2]
      simp -implicitDefEqProofs (maxSteps := 2000000) only [↓ops_nil,↓ops_none,↓ops_some,↓kd_eff,↓dr_nil,↓dr_cons,↓d1_none,↓d1_some,↓eff_store,↓eff_box,↓eff_alloc,↓eff_build,↓eff_buildSlice,↓eff_call,↓eff_append,↓eff_copy,↓eff_cap,↓eff_clear,↓eff_make,↓reduceIte,↓c_condI,↓c_seqH,↓c_blockH,↓then_nH,↓then_rH,↓then_eH,↓block_nH,↓block_rH,↓block_eH,go_sem,hw]
      refine ⟨b - 1,[.any,.any,.ref [i64 r,.slice .imm 1 (p.map i64),.slice .imm 6 (cs.map csSV),.slice .imm 4 (q.map trSV)],.ref [i64 r,.slice .imm 1 (p.map i64),.slice .imm 6 (cs.map csSV),.slice .imm 4 (q.map trSV)],.any,.any,i64 ((k + 1 : Nat) : Int),.any,.any,.any,.any,.any,.any,.any,.any,.any,.any,.any,.any,.any,.any,.any,.any,.any,.any,.any,.any,.any,.any,.any,.any,.any,.any,.any,.any,.any,.any,.any,.any,.any,.any,.any,.any,.any,.any,.any,.any,.any,.any,.any,.any,.any,.any,.any,.any,.any,.any,.any,.any,.any,.any,.any,.any,.any,.any,.any,.any,.any,.any,.any,.any,.any,.any,.any,.any,.any,.any,.any,.any,.any,.any,.any,.any,.any,.any,.any,.any,.any,.any,.any,.any,.any,.any,.any,.any,.any,.any,.any,.any,.any,.any,.any,.any,.any,.any,.any,.any,.any,.any,.any,.any,.any,.any,.any],by omega,?_,k + 1,by omega,rfl⟩
      repeat (first | exact leEnv_nil | refine leEnv_any _ ?_ | refine leEnv_same _ ?_ | refine leEnv_norm _ ?_)
    obtain rfl : k = cs.length := by omega
    have c1 : ((cs.length : Int) < (cs.length : Int)) = False := eq_false (by omega)
    simp -implicitDefEqProofs (maxSteps := 2000000) only [↓ops_nil,↓ops_none,↓ops_some,↓kd_eff,↓dr_nil,↓dr_cons,↓d1_none,↓d1_some,↓eff_store,↓eff_box,↓eff_alloc,↓eff_build,↓eff_buildSlice,↓eff_call,↓eff_append,↓eff_copy,↓eff_cap,↓eff_clear,↓eff_make,↓reduceIte,↓c_condI,↓c_seqH,↓c_blockH,↓then_nH,↓then_rH,↓then_eH,↓block_nH,↓block_rH,↓block_eH,go_sem,c1,List.length_map]
    refine awp_rounds [] (fun b e s2 => ∃ k,k + b = q.length ∧ s2 = s ∧ e = [.any,.any,.ref [i64 r,.slice .imm 1 (p.map i64),.slice .imm 6 (cs.map csSV),.slice .imm 4 (q.map trSV)],.ref [i64 r,.slice .imm 1 (p.map i64),.slice .imm 6 (cs.map csSV),.slice .imm 4 (q.map trSV)],.any,.any,.any,.any,i64 k,.any,.any,.any,.any,.any,.any,.any,.any,.any,.any,.any,.any,.any,.any,.any,.any,.any,.any,.any,.any,.any,.any,.any,.any,.any,.any,.any,.any,.any,.any,.any,.any,.any,.any,.any,.any,.any,.any,.any,.any,.any,.any,.any,.any,.any,.any,.any,.any,.any,.any,.any,.any,.any,.any,.any,.any,.any,.any,.any,.any,.any,.any,.any,.any,.any,.any,.any,.any,.any,.any,.any,.any,.any,.any,.any,.any,.any,.any,.any,.any,.any,.any,.any,.any,.any,.any,.any,.any,.any,.any,.any,.any,.any,.any,.any,.any,.any,.any,.any,.any,.any,.any,.any,.any,.any]) (n := q.length) ?_ ⟨0,by omega,rfl,rfl⟩ ?_
    · repeat (first | exact leEnv_nil | refine leEnv_any _ ?_ | refine leEnv_same _ ?_ | refine leEnv_norm _ ?_)
    clear hk hlt
    rintro b e s2 ⟨k,hk,rfl,rfl⟩
    by_cases hlt : k < q.length
    · have d1 : (k : Int) < (q.length : Int) := by omega
      have d3 : (0 : Int) ≤ (k : Int) := by omega
      have hgt := getm trSV hlt
      have hw := wrap1 (k := k) (by omega)
      have hmem : q[k] ∈ q := List.getElem_mem hlt
      have hfx := few_ts hft _ hmem
      have hsx := List.sizeOf_lt_of_mem hmem
      obtain ⟨x,hx⟩ : ∃ x,q[k] = x := ⟨_,rfl⟩
      rw [hx] at hgt hfx hsx
      have hih := ih x (by omega) hfx
      obtain ⟨r',p',cs',q',hxt,ht'⟩ := trC_eq x
      have hcsx : trSV x = .agg [i64 r',.slice .imm 1 (p'.map i64),.slice .imm 6 (csL cs'),.slice .imm 4 (trL q')] := by unfold trSV; rw [ht']
      rw [hcsx] at hih hgt
      simp -implicitDefEqProofs (maxSteps := 2000000) only [↓ops_nil,↓ops_none,↓ops_some,↓kd_eff,↓dr_nil,↓dr_cons,↓d1_none,↓d1_some,↓eff_store,↓eff_box,↓eff_alloc,↓eff_build,↓eff_buildSlice,↓eff_call,↓eff_append,↓eff_copy,↓eff_cap,↓eff_clear,↓eff_make,↓reduceIte,↓c_condI,↓c_seqH,↓c_blockH,↓then_nH,↓then_rH,↓then_eH,↓block_nH,↓block_rH,↓block_eH,go_sem,d1,List.length_map]
      refine awp_drawH [] Try.mixed rfl fun R hR => ?_
      simp -implicitDefEqProofs (maxSteps := 2000000) only [↓ops_nil,↓ops_none,↓ops_some,↓kd_eff,↓dr_nil,↓dr_cons,↓d1_none,↓d1_some,↓eff_store,↓eff_box,↓eff_alloc,↓eff_build,↓eff_buildSlice,↓eff_call,↓eff_append,↓eff_copy,↓eff_cap,↓eff_clear,↓eff_make,↓reduceIte,↓c_condI,↓c_seqH,↓c_blockH,↓then_nH,↓then_rH,↓then_eH,↓block_nH,↓block_rH,↓block_eH,go_sem,d1,d3,hgt,List.length_map]
      rw [dk_eff]
      refine ⟨.sc (.bool true),?_,?_⟩
      · simp -implicitDefEqProofs (maxSteps := 2000000) only [↓ops_nil,↓ops_none,↓ops_some,↓kd_eff,↓dr_nil,↓dr_cons,↓d1_none,↓d1_some,↓eff_store,↓eff_box,↓eff_alloc,↓eff_build,↓eff_buildSlice,↓eff_call,↓eff_append,↓eff_copy,↓eff_cap,↓eff_clear,↓eff_make,↓reduceIte,↓c_condI,↓c_seqH,↓c_blockH,↓then_nH,↓then_rH,↓then_eH,↓block_nH,↓block_rH,↓block_eH,go_sem]
        refine hih _ _ ?_
        exact kept_sc
      rw [hR]
      simp -implicitDefEqProofs (maxSteps := 2000000) only [↓ops_nil,↓ops_none,↓ops_some,↓kd_eff,↓dr_nil,↓dr_cons,↓d1_none,↓d1_some,↓eff_store,↓eff_box,↓eff_alloc,↓eff_build,↓eff_buildSlice,↓eff_call,↓eff_append,↓eff_copy,↓eff_cap,↓eff_clear,↓eff_make,↓reduceIte,↓c_condI,↓c_seqH,↓c_blockH,↓then_nH,↓then_rH,↓then_eH,↓block_nH,↓block_rH,↓block_eH,go_sem,hw]
      refine ⟨b - 1,[.any,.any,.ref [i64 r,.slice .imm 1 (p.map i64),.slice .imm 6 (cs.map csSV),.slice .imm 4 (q.map trSV)],.ref [i64 r,.slice .imm 1 (p.map i64),.slice .imm 6 (cs.map csSV),.slice .imm 4 (q.map trSV)],.any,.any,.any,.any,i64 ((k + 1 : Nat) : Int),.any,.any,.any,.any,.any,.any,.any,.any,.any,.any,.any,.any,.any,.any,.any,.any,.any,.any,.any,.any,.any,.any,.any,.any,.any,.any,.any,.any,.any,.any,.any,.any,.any,.any,.any,.any,.any,.any,.any,.any,.any,.any,.any,.any,.any,.any,.any,.any,.any,.any,.any,.any,.any,.any,.any,.any,.any,.any,.any,.any,.any,.any,.any,.any,.any,.any,.any,.any,.any,.any,.any,.any,.any,.any,.any,.any,.any,.any,.any,.any,.any,.any,.any,.any,.any,.any,.any,.any,.any,.any,.any,.any,.any,.any,.any,.any,.any,.any,.any,.any,.any,.any,.any,.any,.any],by omega,?_,k + 1,by omega,rfl⟩
      repeat (first | exact leEnv_nil | refine leEnv_any _ ?_ | refine leEnv_same _ ?_ | refine leEnv_norm _ ?_)
    obtain rfl : k = q.length := by omega
    have d1 : ((q.length : Int) < (q.length : Int)) = False := eq_false (by omega)
    simp -implicitDefEqProofs (maxSteps := 2000000) only [↓ops_nil,↓ops_none,↓ops_some,↓kd_eff,↓dr_nil,↓dr_cons,↓d1_none,↓d1_some,↓eff_store,↓eff_box,↓eff_alloc,↓eff_build,↓eff_buildSlice,↓eff_call,↓eff_append,↓eff_copy,↓eff_cap,↓eff_clear,↓eff_make,↓reduceIte,↓c_condI,↓c_seqH,↓c_blockH,↓then_nH,↓then_rH,↓then_eH,↓block_nH,↓block_rH,↓block_eH,go_sem,d1,List.length_map]
    exact fin_sc h
theorem sames : ∀ n,SameTo n
  | 0 => fun t h => absurd h (Nat.not_lt_zero _)
  | n + 1 => same_step n (sames n)
end Go.Proofs
namespace Go.Proofs
open Go Go.AL
structure Plc where
  name : ByteArray
  path : List Int
def plSV (p : Plc) : SV := .agg [str p.name,.slice .imm 1 (p.path.map i64)]
def pre (i : Nat) (l : List Plc) : List Plc := l.map fun p => ⟨p.name,(i : Int) :: p.path⟩
def namesF : Nat → Nd → List Plc
  | 0,_ => []
  | d + 1,p => if p.kind == 4 then [⟨p.text,[]⟩] else ((List.range p.kids.length).map fun i => pre i (namesF d (p.kids.getD i default))).flatten
def nmOk : Nat → Nd → Bool
  | 0,_ => false
  | d + 1,p => decide (p.kids.length ≤ 10) && (namesF (d + 1) p).all (fun x => decide (x.path.length ≤ 100)) && decide ((namesF (d + 1) p).length ≤ 100) && (p.kind == 4 || p.kids.all (nmOk d))
theorem ids_pl (n : Nat) (p : Plc) : Ids n (plSV p) := by
  unfold plSV
  rw [ids_agg]
  intro y hy
  simp only [List.mem_cons,List.not_mem_nil,or_false] at hy
  rcases hy with rfl | rfl
  · exact .sc _
  · exact ids_i64s n .imm (.inl rfl) _
theorem ids_pls (n : Nat) (m : AL.Mode) (hm : m = .imm ∨ m = .full) (l : List Plc) : Ids n (.slice m 2 (l.map plSV)) := ids_slice hm fun x hx y hy => by
  obtain ⟨c,_,rfl⟩ := List.mem_map.1 hx
  have := ids_pl n c
  unfold plSV at this hy
  rw [ids_agg] at this
  exact this y hy
theorem app68 {n : Nat} (h : n ≤ 1000000) : AppOk Try.prog 68 68 2 n := appOk_of Try.aelem68 Try.aelem68 Try.asize71 Try.azero71 rfl Try.abytes71 (by omega) h
def NamesTo (d : Nat) : Prop := ∀ p : Nd,nmOk d p = true → ∀ (K : SV → St → Prop) (st : St),K (.slice .imm 2 ((namesF d p).map plSV)) st → ACalls Try.prog 15 [nodeSV p] K st
theorem flat_range {α : Type} (f : Nat → List α) (k : Nat) : ((List.range (k + 1)).map f).flatten = ((List.range k).map f).flatten ++ f k := by
  rw [List.range_succ,List.map_append,List.flatten_append]; simp
theorem flat_le {α : Type} (f : Nat → List α) (k n : Nat) (h : k ≤ n) : (((List.range k).map f).flatten).length ≤ (((List.range n).map f).flatten).length := by
  induction n with
  | zero => have : k = 0 := by omega
            subst this; exact Nat.le_refl _
  | succ n ih =>
    rcases Nat.lt_or_ge n k with h1 | h1
    · have : k = n + 1 := by omega
      subst this; exact Nat.le_refl _
    · rw [flat_range,List.length_append]; have := ih h1; omega
theorem names_step (d : Nat) (ih : NamesTo d) : NamesTo (d + 1) := by
  intro p hok K st h
  rw [nmOk] at hok
  simp only [Bool.and_eq_true,decide_eq_true_eq,Bool.or_eq_true,List.all_eq_true,beq_iff_eq] at hok
  obtain ⟨⟨⟨hkl,hpl⟩,hnl⟩,hkk⟩ := hok
  refine acalls_goV [] Try.func15 rfl Try.results15 Try.ntmps15 ?_
  rw [namesF] at h hpl hnl
  cases hk : (p.kind == 4) with
  | true =>
    rw [if_pos hk] at h
    simp -implicitDefEqProofs (maxSteps := 2000000) only [↓ops_nil,↓ops_none,↓ops_some,↓kd_eff,↓dr_nil,↓dr_cons,↓d1_none,↓d1_some,↓eff_store,↓eff_box,↓eff_alloc,↓eff_build,↓eff_buildSlice,↓eff_call,↓eff_append,↓eff_copy,↓eff_cap,↓eff_clear,↓eff_make,↓reduceIte,↓c_condI,↓c_seqH,↓c_blockH,↓then_nH,↓then_rH,↓then_eH,↓block_nH,↓block_rH,↓block_eH,go_sem,hk]
    refine ⟨.slice .imm 2 ([(⟨p.text,[]⟩ : Plc)].map plSV),?_,⟨[],by simp⟩,ids_pls _ .imm (.inl rfl) _,h⟩
    refine SVle.slice rfl (.cons ?_ .nil)
    exact .cons (SVle.refl _) (.cons (SVle.nil _ _ _ (.inr rfl)) .nil)
  | false =>
    rw [if_neg (by rw [hk]; decide)] at h hpl hnl
    have hkids : ∀ x ∈ p.kids,nmOk d x = true := by
      rcases hkk with h4 | h4
      · rw [h4] at hk; cases hk
      · exact h4
    simp -implicitDefEqProofs (maxSteps := 2000000) only [↓ops_nil,↓ops_none,↓ops_some,↓kd_eff,↓dr_nil,↓dr_cons,↓d1_none,↓d1_some,↓eff_store,↓eff_box,↓eff_alloc,↓eff_build,↓eff_buildSlice,↓eff_call,↓eff_append,↓eff_copy,↓eff_cap,↓eff_clear,↓eff_make,↓reduceIte,↓c_condI,↓c_seqH,↓c_blockH,↓then_nH,↓then_rH,↓then_eH,↓block_nH,↓block_rH,↓block_eH,go_sem,hk,List.length_map]
    refine awp_own 3 2 0 rfl ?_
    refine awp_rounds [] (fun b e s => ∃ i v,i + b = p.kids.length ∧ s[st.length]? = some (.tok v) ∧ (∃ ex,s = st ++ ex) ∧ e = [.any,.any,.any,.slice (.own st.length v) 2 ((((List.range i).map fun i => pre i (namesF d (p.kids.getD i default))).flatten).map plSV),.any,.any,.any,.any,.any,.any,.any,.any,.any,.any,.any,.any,.slice .imm 6 (p.kids.map nodeSV),i64 p.kids.length,i64 i,.any,.any,.any,.any,.any,.any,.any,.any,.any,.any,.any,.any,.any,.any,.any,.any,.any,.any,.any,.any,.any,.any,.any,.any,.any]) (n := p.kids.length) ?_ ⟨0,0,by omega,by simp,⟨_,rfl⟩,rfl⟩ ?_
    · simp only [List.set_cons_succ,List.set_cons_zero]
      repeat (first | exact leEnv_nil | refine leEnv_any _ ?_ | refine leEnv_same _ ?_ | refine leEnv_norm _ ?_)
    rintro b e s ⟨i,v,hib,hT,hex,rfl⟩
    by_cases hlt : i < p.kids.length
    · have c1 : (i : Int) < (p.kids.length : Int) := by omega
      have c3 : (0 : Int) ≤ (i : Int) := by omega
      have hw := wrap1 (k := i) (by omega)
      have hgt := getm nodeSV hlt
      have hkx := hkids _ (List.getElem_mem hlt)
      have hfr := flat_range (fun i => pre i (namesF d (p.kids.getD i default))) i
      have hfl := flat_le (fun i => pre i (namesF d (p.kids.getD i default))) (i + 1) p.kids.length (by omega)
      rw [getd hlt] at hfr
      obtain ⟨x,hx⟩ : ∃ x,p.kids[i] = x := ⟨_,rfl⟩
      rw [hx] at hgt hkx hfr
      obtain ⟨N,hN⟩ : ∃ N,namesF d x = N := ⟨_,rfl⟩
      have hih : ∀ (K : SV → St → Prop) (st : St),K (.slice .imm 2 (N.map plSV)) st → ACalls Try.prog 15 [nodeSV x] K st := fun K st h => ih x hkx K st (by rw [hN]; exact h)
      rw [hN] at hfr
      obtain ⟨O,hO⟩ : ∃ O,(((List.range i).map fun i => pre i (namesF d (p.kids.getD i default))).flatten) = O := ⟨_,rfl⟩
      rw [hO] at hfr ⊢
      have hlO : O.length + N.length ≤ 100 := by
        have h1 := congrArg List.length hfr
        have hpre : (pre i N).length = N.length := by unfold pre; rw [List.length_map]
        rw [List.length_append,hpre] at h1
        omega
      have hNp : ∀ y ∈ N,y.path.length ≤ 99 := fun y hy => by
        have hm : (⟨y.name,(i : Int) :: y.path⟩ : Plc) ∈ ((List.range p.kids.length).map fun i => pre i (namesF d (p.kids.getD i default))).flatten := by
          rw [List.mem_flatten]
          refine ⟨pre i (namesF d (p.kids.getD i default)),List.mem_map.2 ⟨i,List.mem_range.2 hlt,rfl⟩,?_⟩
          rw [getd hlt,hx,hN]
          exact List.mem_map.2 ⟨y,hy,rfl⟩
        have := hpl _ hm
        simp only [List.length_cons] at this
        omega
      obtain ⟨S1,hS1⟩ : ∃ S1,s ++ [Ob.cells (nodeSV x).cells] = S1 := ⟨_,rfl⟩
      have gT : S1[st.length]? = some (.tok v) := by rw [← hS1]; exact get_app hT _
      have r5 := cells_facts (show S1[s.length]? = some (.cells (nodeSV x).cells) by rw [← hS1]; simp)
      have hex1 : ∃ ex,S1 = st ++ ex := by rw [← hS1]; exact ex_app2 hex _
      simp -implicitDefEqProofs (maxSteps := 2000000) only [↓ops_nil,↓ops_none,↓ops_some,↓kd_eff,↓dr_nil,↓dr_cons,↓d1_none,↓d1_some,↓eff_store,↓eff_box,↓eff_alloc,↓eff_build,↓eff_buildSlice,↓eff_call,↓eff_append,↓eff_copy,↓eff_cap,↓eff_clear,↓eff_make,↓reduceIte,↓c_condI,↓c_seqH,↓c_blockH,↓then_nH,↓then_rH,↓then_eH,↓block_nH,↓block_rH,↓block_eH,go_sem,c1,c3,hgt,cell_nd,hS1,r5.1,r5.2.1,r5.2.2,List.length_map]
      refine hih _ _ ?_
      simp -implicitDefEqProofs (maxSteps := 2000000) only [↓ops_nil,↓ops_none,↓ops_some,↓kd_eff,↓dr_nil,↓dr_cons,↓d1_none,↓d1_some,↓eff_store,↓eff_box,↓eff_alloc,↓eff_build,↓eff_buildSlice,↓eff_call,↓eff_append,↓eff_copy,↓eff_cap,↓eff_clear,↓eff_make,↓reduceIte,↓c_condI,↓c_seqH,↓c_blockH,↓then_nH,↓then_rH,↓then_eH,↓block_nH,↓block_rH,↓block_eH,go_sem,List.length_map]
      have hO0 : (O ++ pre i (N.take 0)).map plSV = O.map plSV := by simp [pre]
      refine awp_weaken (b := [.any,.any,.any,.slice (.own st.length v) 2 ((O ++ pre i (N.take 0)).map plSV),i64 i,.any,.any,.any,.any,.any,.any,.any,.any,.any,.any,.any,.slice .imm 6 (p.kids.map nodeSV),i64 p.kids.length,i64 i,.any,.any,.any,.any,.any,.slice .imm 2 (N.map plSV),i64 N.length,i64 0,.any,.any,.any,.any,.any,.any,.any,.any,.any,.any,.any,.any,.any,.any,.any,.any,.any]) ?_ ?_
      · rw [hO0]
        repeat (first | exact leEnv_nil | refine leEnv_any _ ?_ | refine leEnv_same _ ?_ | refine leEnv_norm _ ?_)
      refine awp_rounds [] (fun b2 e s2 => ∃ j w,j + b2 = N.length ∧ s2[st.length]? = some (.tok w) ∧ (∃ ex,s2 = st ++ ex) ∧ e = [.any,.any,.any,.slice (.own st.length w) 2 ((O ++ pre i (N.take j)).map plSV),i64 i,.any,.any,.any,.any,.any,.any,.any,.any,.any,.any,.any,.slice .imm 6 (p.kids.map nodeSV),i64 p.kids.length,i64 i,.any,.any,.any,.any,.any,.slice .imm 2 (N.map plSV),i64 N.length,i64 j,.any,.any,.any,.any,.any,.any,.any,.any,.any,.any,.any,.any,.any,.any,.any,.any,.any]) (n := N.length) ?_ ⟨0,v,by omega,gT,hex1,rfl⟩ ?_
      · repeat (first | exact leEnv_nil | refine leEnv_any _ ?_ | refine leEnv_same _ ?_ | refine leEnv_norm _ ?_)
      rintro b2 e s2 ⟨j,w2,hj,hT2,hex2,rfl⟩
      by_cases hlj : j < N.length
      · have d1 : (j : Int) < (N.length : Int) := by omega
        have d3 : (0 : Int) ≤ (j : Int) := by omega
        have hwj := wrap1 (k := j) (by omega)
        have hgj := getm plSV hlj
        have hyp := hNp _ (List.getElem_mem hlj)
        have htk : O ++ pre i (N.take (j + 1)) = (O ++ pre i (N.take j)) ++ [⟨N[j].name,(i : Int) :: N[j].path⟩] := by
          rw [List.take_succ_eq_append_getElem hlj]
          unfold pre
          rw [List.map_append,List.append_assoc]; rfl
        obtain ⟨y,hy⟩ : ∃ y,N[j] = y := ⟨_,rfl⟩
        rw [hy] at hgj hyp htk
        have hlP : (O ++ pre i (N.take j)).length ≤ 100 := by
          rw [List.length_append]; unfold pre; rw [List.length_map,List.length_take]; omega
        obtain ⟨P,hP⟩ : ∃ P,O ++ pre i (N.take j) = P := ⟨_,rfl⟩
        rw [hP] at htk hlP ⊢
        have hl2 : st.length < s2.length := lt_of_get hT2
        obtain ⟨S2,hS2⟩ : ∃ S2,s2 ++ [Ob.cells [str y.name,.slice .imm 1 (y.path.map i64)]] = S2 := ⟨_,rfl⟩
        have g7 : S2[s2.length]? = some (.cells [str y.name,.slice .imm 1 (y.path.map i64)]) := by rw [← hS2]; simp
        have r7 := cells_facts g7
        have g72 := get_app g7 [Ob.tok 0]
        have r72 := cells_facts g72
        have gT2 : S2[st.length]? = some (.tok w2) := by rw [← hS2]; exact get_app hT2 _
        have qt := tokAt_eq (v' := w2) (get_app gT2 [Ob.tok 0])
        have hap1 := app29 (n := 1 + y.path.length) (by omega)
        have hap2 := app68 (n := P.length + 1) (by omega)
        simp -implicitDefEqProofs (maxSteps := 2000000) only [↓ops_nil,↓ops_none,↓ops_some,↓kd_eff,↓dr_nil,↓dr_cons,↓d1_none,↓d1_some,↓eff_store,↓eff_box,↓eff_alloc,↓eff_build,↓eff_buildSlice,↓eff_call,↓eff_append,↓eff_copy,↓eff_cap,↓eff_clear,↓eff_make,↓reduceIte,↓c_condI,↓c_seqH,↓c_blockH,↓then_nH,↓then_rH,↓then_eH,↓block_nH,↓block_rH,↓block_eH,go_sem,d1,d3,hgj,plSV,hS2,List.length_map]
        refine awp_drawW [] [(0,[10]),(0,[10]),(0,[10]),(0,[]),(0,[]),(0,[]),(0,[]),(3,[10]),(0,[]),(0,[]),(3,[12]),(0,[])] Try.mixed rfl ?_
        simp -implicitDefEqProofs (maxSteps := 2000000) only [↓ops_nil,↓ops_none,↓ops_some,↓kd_eff,↓dr_nil,↓dr_cons,↓d1_none,↓d1_some,↓eff_store,↓eff_box,↓eff_alloc,↓eff_build,↓eff_buildSlice,↓eff_call,↓eff_append,↓eff_copy,↓eff_cap,↓eff_clear,↓eff_make,↓reduceIte,↓c_condI,↓c_seqH,↓c_blockH,↓then_nH,↓then_rH,↓then_eH,↓block_nH,↓block_rH,↓block_eH,go_sem,drawW_n,drawW_0,drawW_2,drawW_1,drawW_3,pend_n,pend_c,headD_c,isStore_s,r7.1,r7.2.1,r7.2.2]
        rw [dk_eff]
        refine ⟨.slice .full 1 [i64 i],?_,?_⟩
        · simp -implicitDefEqProofs (maxSteps := 2000000) only [↓ops_nil,↓ops_none,↓ops_some,↓kd_eff,↓dr_nil,↓dr_cons,↓d1_none,↓d1_some,↓eff_store,↓eff_box,↓eff_alloc,↓eff_build,↓eff_buildSlice,↓eff_call,↓eff_append,↓eff_copy,↓eff_cap,↓eff_clear,↓eff_make,↓reduceIte,↓c_condI,↓c_seqH,↓c_blockH,↓then_nH,↓then_rH,↓then_eH,↓block_nH,↓block_rH,↓block_eH,go_sem]
          exact ⟨⟨[],by simp⟩,ids_int1 _ _,.inl rfl⟩
        simp -implicitDefEqProofs (maxSteps := 2000000) only [↓ops_nil,↓ops_none,↓ops_some,↓kd_eff,↓dr_nil,↓dr_cons,↓d1_none,↓d1_some,↓eff_store,↓eff_box,↓eff_alloc,↓eff_build,↓eff_buildSlice,↓eff_call,↓eff_append,↓eff_copy,↓eff_cap,↓eff_clear,↓eff_make,↓reduceIte,↓c_condI,↓c_seqH,↓c_blockH,↓then_nH,↓then_rH,↓then_eH,↓block_nH,↓block_rH,↓block_eH,go_sem,drawW_n,drawW_0,drawW_2,drawW_1,drawW_3,pend_n,pend_c,headD_c,isStore_s,r7.1,r7.2.1,r7.2.2,List.length_map]
        refine ⟨_,_,⟨hap1,rfl,rfl⟩,?_⟩
        simp -implicitDefEqProofs (maxSteps := 2000000) only [↓ops_nil,↓ops_none,↓ops_some,↓kd_eff,↓dr_nil,↓dr_cons,↓d1_none,↓d1_some,↓eff_store,↓eff_box,↓eff_alloc,↓eff_build,↓eff_buildSlice,↓eff_call,↓eff_append,↓eff_copy,↓eff_cap,↓eff_clear,↓eff_make,↓reduceIte,↓c_condI,↓c_seqH,↓c_blockH,↓then_nH,↓then_rH,↓then_eH,↓block_nH,↓block_rH,↓block_eH,go_sem,drawW_n,drawW_0,drawW_2,drawW_1,drawW_3,pend_n,pend_c,headD_c,isStore_s,r72.1,r72.2.1,r72.2.2]
        rw [dk_eff]
        refine ⟨plSV ⟨y.name,(i : Int) :: y.path⟩,?_,?_⟩
        · simp -implicitDefEqProofs (maxSteps := 2000000) only [↓ops_nil,↓ops_none,↓ops_some,↓kd_eff,↓dr_nil,↓dr_cons,↓d1_none,↓d1_some,↓eff_store,↓eff_box,↓eff_alloc,↓eff_build,↓eff_buildSlice,↓eff_call,↓eff_append,↓eff_copy,↓eff_cap,↓eff_clear,↓eff_make,↓reduceIte,↓c_condI,↓c_seqH,↓c_blockH,↓then_nH,↓then_rH,↓then_eH,↓block_nH,↓block_rH,↓block_eH,go_sem]
          exact ⟨⟨[],by simp⟩,ids_pl _ _,.inr rfl⟩
        rw [dk_eff]
        refine ⟨.slice .full 2 [plSV ⟨y.name,(i : Int) :: y.path⟩],?_,?_⟩
        · simp -implicitDefEqProofs (maxSteps := 2000000) only [↓ops_nil,↓ops_none,↓ops_some,↓kd_eff,↓dr_nil,↓dr_cons,↓d1_none,↓d1_some,↓eff_store,↓eff_box,↓eff_alloc,↓eff_build,↓eff_buildSlice,↓eff_call,↓eff_append,↓eff_copy,↓eff_cap,↓eff_clear,↓eff_make,↓reduceIte,↓c_condI,↓c_seqH,↓c_blockH,↓then_nH,↓then_rH,↓then_eH,↓block_nH,↓block_rH,↓block_eH,go_sem,plSV]
          exact ⟨⟨[],by simp⟩,ids_pls _ .full (.inr rfl) [⟨y.name,(i : Int) :: y.path⟩],.inl rfl⟩
        simp -implicitDefEqProofs (maxSteps := 2000000) only [↓ops_nil,↓ops_none,↓ops_some,↓kd_eff,↓dr_nil,↓dr_cons,↓d1_none,↓d1_some,↓eff_store,↓eff_box,↓eff_alloc,↓eff_build,↓eff_buildSlice,↓eff_call,↓eff_append,↓eff_copy,↓eff_cap,↓eff_clear,↓eff_make,↓reduceIte,↓c_condI,↓c_seqH,↓c_blockH,↓then_nH,↓then_rH,↓then_eH,↓block_nH,↓block_rH,↓block_eH,go_sem,drawW_n,drawW_0,drawW_2,drawW_1,drawW_3,pend_n,pend_c,headD_c,isStore_s,qt,List.length_map]
        refine ⟨_,_,⟨hap2,rfl,rfl,rfl⟩,?_⟩
        simp -implicitDefEqProofs (maxSteps := 2000000) only [↓ops_nil,↓ops_none,↓ops_some,↓kd_eff,↓dr_nil,↓dr_cons,↓d1_none,↓d1_some,↓eff_store,↓eff_box,↓eff_alloc,↓eff_build,↓eff_buildSlice,↓eff_call,↓eff_append,↓eff_copy,↓eff_cap,↓eff_clear,↓eff_make,↓reduceIte,↓c_condI,↓c_seqH,↓c_blockH,↓then_nH,↓then_rH,↓then_eH,↓block_nH,↓block_rH,↓block_eH,go_sem,hwj]
        have e9 : (O ++ pre i (N.take (j + 1))).map plSV = P.map plSV ++ [plSV ⟨y.name,(i : Int) :: y.path⟩] := by rw [htk,List.map_append]; rfl
        refine ⟨b2 - 1,[.any,.any,.any,.slice (.own st.length (w2 + 1)) 2 ((O ++ pre i (N.take (j + 1))).map plSV),i64 i,.any,.any,.any,.any,.any,.any,.any,.any,.any,.any,.any,.slice .imm 6 (p.kids.map nodeSV),i64 p.kids.length,i64 i,.any,.any,.any,.any,.any,.slice .imm 2 (N.map plSV),i64 N.length,i64 ((j + 1 : Nat) : Int),.any,.any,.any,.any,.any,.any,.any,.any,.any,.any,.any,.any,.any,.any,.any,.any,.any],by omega,?_,j + 1,w2 + 1,by omega,set_get (by rw [List.length_append]; exact Nat.lt_of_lt_of_le (lt_of_get gT2) (Nat.le_add_right _ _)),(by rw [← hS2]; exact ex_set (ex_app2 (ex_app2 hex2 _) _) (Nat.le_refl _) _),rfl⟩
        rw [e9]
        repeat (first | exact leEnv_nil | refine leEnv_any _ ?_ | refine leEnv_same _ ?_ | refine leEnv_norm _ ?_)
      obtain rfl : j = N.length := by omega
      have d1 : ((N.length : Int) < (N.length : Int)) = False := eq_false (by omega)
      rw [List.take_length]
      simp -implicitDefEqProofs (maxSteps := 2000000) only [↓ops_nil,↓ops_none,↓ops_some,↓kd_eff,↓dr_nil,↓dr_cons,↓d1_none,↓d1_some,↓eff_store,↓eff_box,↓eff_alloc,↓eff_build,↓eff_buildSlice,↓eff_call,↓eff_append,↓eff_copy,↓eff_cap,↓eff_clear,↓eff_make,↓reduceIte,↓c_condI,↓c_seqH,↓c_blockH,↓then_nH,↓then_rH,↓then_eH,↓block_nH,↓block_rH,↓block_eH,go_sem,d1,hw]
      refine ⟨b - 1,[.any,.any,.any,.slice (.own st.length w2) 2 ((((List.range (i + 1)).map fun i => pre i (namesF d (p.kids.getD i default))).flatten).map plSV),.any,.any,.any,.any,.any,.any,.any,.any,.any,.any,.any,.any,.slice .imm 6 (p.kids.map nodeSV),i64 p.kids.length,i64 ((i + 1 : Nat) : Int),.any,.any,.any,.any,.any,.any,.any,.any,.any,.any,.any,.any,.any,.any,.any,.any,.any,.any,.any,.any,.any,.any,.any,.any,.any],by omega,?_,i + 1,w2,by omega,hT2,hex2,rfl⟩
      rw [hfr]
      repeat (first | exact leEnv_nil | refine leEnv_any _ ?_ | refine leEnv_same _ ?_ | refine leEnv_norm _ ?_)
    obtain rfl : i = p.kids.length := by omega
    have c1 : ((p.kids.length : Int) < (p.kids.length : Int)) = False := eq_false (by omega)
    simp -implicitDefEqProofs (maxSteps := 2000000) only [↓ops_nil,↓ops_none,↓ops_some,↓kd_eff,↓dr_nil,↓dr_cons,↓d1_none,↓d1_some,↓eff_store,↓eff_box,↓eff_alloc,↓eff_build,↓eff_buildSlice,↓eff_call,↓eff_append,↓eff_copy,↓eff_cap,↓eff_clear,↓eff_make,↓reduceIte,↓c_condI,↓c_seqH,↓c_blockH,↓then_nH,↓then_rH,↓then_eH,↓block_nH,↓block_rH,↓block_eH,go_sem,c1]
    exact ⟨_,le_imm _ _ _,hex,ids_pls _ .imm (.inl rfl) _,h⟩
theorem names : ∀ d,NamesTo d
  | 0 => fun p h => by cases h
  | d + 1 => names_step d (names d)
end Go.Proofs
