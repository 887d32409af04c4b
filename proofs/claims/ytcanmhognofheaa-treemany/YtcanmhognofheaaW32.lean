/- slices.Grow and slices.Concat of columns. -/
import Derived.Test.YtcanmhognofheaaW31
set_option linter.all false
set_option maxHeartbeats 4000000
set_option linter.unusedSimpArgs false
set_option linter.unusedVariables false
set_option maxRecDepth 8000
namespace Go.AL
theorem acalls_newArr {P : Program} {f : FuncId} {args : List SV} {K : SV → St → Prop} {st : St} {z z' : Nat} (h : ACalls P f args (fun x s => x = .slice .full z' [] ∧ (∃ ex,s = st ++ ex) ∧ K (.arr st.length 0 0) (st ++ [.arr 0 z []])) st) : ACalls P f args K st := by
  intro σ w vs hI hR
  refine (h σ w vs hI hR).mono ?_
  rintro e w' ⟨v,x,s,σ',rfl,⟨rfl,⟨ex,rfl⟩,hk⟩,hI',hr,hX⟩
  have hI1 := hI'.drop hI.obIds
  have hX1 := hX.drop (Nat.le_refl _)
  have hr1 : Rep st σ' w' (.slice .full z' []) v := hr.drop (ids_slice (.inr rfl) fun x hx => by cases hx)
  exact ⟨v,_,_,_,rfl,hk,hI1.newArr z,rep_newArr hr1,hX1.trans (Ext.newOb _ none)⟩
theorem acalls_frz {P : Program} {f : FuncId} {args : List SV} {K : SV → St → Prop} {st : St}
    (h : ACalls P f args (fun x s => ∃ v n z cs xs ex,x = .arr st.length v n ∧ s = st ++ (.arr v z cs :: ex) ∧ cs.take (n * z) = xs.flatMap SV.cells ∧ xs.length = n ∧ (∀ x ∈ xs,x.cells.length = z) ∧ Ids st.length (.slice .imm z xs) ∧ K (.slice .imm z xs) st) st) : ACalls P f args K st := by
  intro σ w vs hI hR
  refine (h σ w vs hI hR).mono ?_
  rintro e w' ⟨val,x,s,σ',rfl,⟨v,n,z,cs,xs,ex,rfl,rfl,hfl,hlen,hcl,hids,hk⟩,hI',hr,hX⟩
  have hid : (st ++ (Ob.arr v z cs :: ex))[st.length]? = some (.arr v z cs) := by simp
  obtain ⟨σ2,hX2,hI2,hr2⟩ := frz_rep hI' hid hfl hlen hcl hr
  have e : (st ++ (Ob.arr v z cs :: ex)).set st.length (.arr (v + 1) z []) = st ++ (Ob.arr (v + 1) z [] :: ex) := by rw [List.set_append_right _ _ (Nat.le_refl _)]; simp
  rw [e] at hX2 hI2 hr2
  exact ⟨val,_,st,σ2,rfl,hk,hI2.drop hI.obIds,hr2.drop hids,(hX.trans hX2).drop (Nat.le_refl _)⟩
end Go.AL
namespace Go.Proofs
open Go Go.AL
theorem num47 {n : Nat} (h0 : 0 < n) (h : n ≤ 100000) : NumOk Try.prog 47 3 n 7 (zerosOf Try.prog 47) := by
  refine ⟨46,112,.i64,Try.aelem47,Try.underlying3,Try.asize46,?_,?_,Try.abytes46,h0,by decide,by omega,by omega⟩
  · rw [zeros_of Try.aelem47 Try.azero46]; exact Try.azero46
  · rw [zeros_of Try.aelem47 Try.azero46]; rfl
theorem acalls_exact {f : FuncId} {args : List SV} {K : SV → St → Prop} {st : St} {z : Nat} (h : ∀ a,ACalls Try.prog f (.sc (.slice a 0 0) :: args) K st) : ACalls Try.prog f (.slice .full z [] :: args) K st := by
  intro σ w vs hI hR
  have h0 := hR.2 0 (by simp)
  simp only [List.getD_cons_zero] at h0
  generalize hv : vs.getD 0 undef = v at h0
  have key : ∃ a,v = .slice a 0 0 := by
    generalize hl : ([] : List SV) = l at h0
    generalize hx : SV.slice .full z l = x at h0
    cases h0 with
    | nil m z hm => cases hx; exact ⟨none,rfl⟩
    | slice m z l a cap vals hcap hsp hzz hc hr hm =>
      cases hx
      subst hl
      have hm' : cap = 0 := hm
      subst hm'
      exact ⟨some a,rfl⟩
    | _ => cases hx
  obtain ⟨a,rfl⟩ := key
  refine h a σ w vs hI ⟨by simpa using hR.1,fun i hi => ?_⟩
  cases i with
  | zero => simp only [List.getD_cons_zero]; rw [hv]; exact .sc _
  | succ i => simpa using hR.2 (i + 1) (by simpa using hi)
theorem grow_c (n : Nat) (hn : n ≤ 100000) (K : SV → St → Prop) (st : St) (h : ∀ v cs,K (.arr st.length v 0) (st ++ [.arr v 7 cs])) : ACalls Try.prog 75 [.slice .full 0 [],i64 n] K st := by
  have e0 : ((0 : Nat) : Int) = 0 := rfl
  have w0 : IntKind.i64.wrap 0 = 0 := by decide
  by_cases h0 : n = 0
  · subst h0
    refine acalls_newArr (z := 7) (z' := 0) ?_
    refine acalls_go (M := []) Try.func75 rfl Try.results75 Try.ntmps75 ?_
    have c0 : ¬ (0 : Int) < 0 := by omega
    rw [e0]
    simp -implicitDefEqProofs (maxSteps := 2000000) only [↓ops_nil,↓ops_none,↓ops_some,↓kd_eff,↓dr_nil,↓dr_cons,↓d1_none,↓d1_some,↓eff_store,↓eff_box,↓eff_alloc,↓eff_build,↓eff_buildSlice,↓eff_call,↓eff_append,↓eff_copy,↓eff_cap,↓eff_clear,↓eff_make,↓reduceIte,↓c_condI,↓c_seqH,↓c_blockH,↓then_nH,↓then_rH,↓then_eH,↓block_nH,↓block_rH,↓block_eH,go_sem,Int.reduceSub,List.length_nil,e0,c0,w0]
    exact h 0 []
  · refine acalls_exact fun a => ?_
    refine acalls_go (M := [1000022]) Try.func75 rfl Try.results75 Try.ntmps75 ?_
    have c1 : ¬ ((n : Int) < 0) := by omega
    have c2 : (0 : Int) < (n : Int) := by omega
    have c3 : (0 : Int) ≤ (n : Int) := by omega
    have hw : IntKind.i64.wrap ((n : Int) - 0) = (n : Int) := by rw [IntWalk.i64_in _ (by omega)]; omega
    have hok := num47 (by omega) hn
    simp -implicitDefEqProofs (maxSteps := 2000000) only [↓ops_nil,↓ops_none,↓ops_some,↓kd_eff,↓dr_nil,↓dr_cons,↓d1_none,↓d1_some,↓eff_store,↓eff_box,↓eff_alloc,↓eff_build,↓eff_buildSlice,↓eff_call,↓eff_append,↓eff_copy,↓eff_cap,↓eff_clear,↓eff_make,↓reduceIte,↓c_condI,↓c_seqH,↓c_blockH,↓then_nH,↓then_rH,↓then_eH,↓block_nH,↓block_rH,↓block_eH,go_sem,Int.reduceSub,List.length_nil,e0,w0,c1,c2,c3,hw,Int.toNat_natCast]
    exact ⟨hok,h 1 _⟩
def partSV (l : List Cel) : SV := .slice .imm 7 (l.map celSV)
def lens (ls : List (List Cel)) : Nat := (ls.map List.length).sum
theorem lens_step (ls : List (List Cel)) {k : Nat} (h : k < ls.length) : lens (ls.take (k + 1)) = lens (ls.take k) + ls[k].length := by
  unfold lens
  rw [List.take_succ_eq_append_getElem h,List.map_append,List.sum_append]
  simp
theorem lens_le (ls : List (List Cel)) (k : Nat) : lens (ls.take k) ≤ lens ls := by
  have e : lens ls = lens (ls.take k) + lens (ls.drop k) := by
    conv => lhs; rw [← List.take_append_drop k ls]
    unfold lens
    rw [List.map_append,List.sum_append]
  omega
theorem flat_step (ls : List (List Cel)) {k : Nat} (h : k < ls.length) : (ls.take (k + 1)).flatten = (ls.take k).flatten ++ ls[k] := by
  rw [List.take_succ_eq_append_getElem h,List.flatten_append]
  simp
theorem flat_len' (ls : List (List Cel)) : ls.flatten.length = lens ls := by
  unfold lens; rw [List.length_flatten]
theorem cels_len (l : List Cel) : ((l.map celSV).flatMap SV.cells).length = l.length * 7 := by
  induction l with
  | nil => rfl
  | cons a r ih => simp only [List.map_cons,List.flatMap_cons,List.length_append,ih,cells_cel,List.length_cons,List.length_nil]; omega
theorem concat_c (m : AL.Mode) (ls : List (List Cel)) (hn : lens ls ≤ 100000) (hl : ls.length ≤ 1000) (K : SV → St → Prop) (st : St) (h : K (.slice .imm 7 (ls.flatten.map celSV)) st) : ACalls Try.prog 58 [.slice m 1 (ls.map partSV)] K st := by
  refine acalls_frz ?_
  refine acalls_go (M := []) Try.func58 rfl Try.results58 Try.ntmps58 ?_
  simp -implicitDefEqProofs (maxSteps := 2000000) only [↓ops_nil,↓ops_none,↓ops_some,↓kd_eff,↓dr_nil,↓dr_cons,↓d1_none,↓d1_some,↓eff_store,↓eff_box,↓eff_alloc,↓eff_build,↓eff_buildSlice,↓eff_call,↓eff_append,↓eff_copy,↓eff_cap,↓eff_clear,↓eff_make,↓reduceIte,↓c_condI,↓c_seqH,↓c_blockH,↓then_nH,↓then_rH,↓then_eH,↓block_nH,↓block_rH,↓block_eH,go_sem,List.length_map]
  refine awp_rounds [] (fun b e s => ∃ k,k + b = ls.length ∧ s = st ∧ e = [.slice m 1 (ls.map partSV),.any,.any,i64 (lens (ls.take k)),.any,.any,.any,.any,.any,.slice m 1 (ls.map partSV),i64 ls.length,i64 k,.any,.any,.any,.any,.any,.any,.any,.any,.any,.any,.any,.any,.any,.any,.any,.any,.any,.any,.any,.any,.any,.any,.any,.any]) (n := ls.length) ?_ ⟨0,by omega,rfl,rfl⟩ ?_
  · repeat (first | exact leEnv_nil | refine leEnv_any _ ?_ | refine leEnv_same _ ?_ | refine leEnv_norm _ ?_)
  rintro b e s ⟨k,hkb,rfl,rfl⟩
  by_cases hlt : k < ls.length
  · have c1 : (k : Int) < (ls.length : Int) := by omega
    have c3 : (0 : Int) ≤ (k : Int) := by omega
    have hw := wrap1 (k := k) (by omega)
    have hgt := getm partSV hlt
    have hst := lens_step ls hlt
    have hle := lens_le ls (k + 1)
    have hadd : IntKind.i64.wrap ((lens (ls.take k) : Int) + (ls[k].length : Int)) = (lens (ls.take (k + 1)) : Int) := by rw [IntWalk.i64_in _ (by omega)]; omega
    have c4 : ¬ ((lens (ls.take (k + 1)) : Int) < 0) := by omega
    simp -implicitDefEqProofs (maxSteps := 2000000) only [↓ops_nil,↓ops_none,↓ops_some,↓kd_eff,↓dr_nil,↓dr_cons,↓d1_none,↓d1_some,↓eff_store,↓eff_box,↓eff_alloc,↓eff_build,↓eff_buildSlice,↓eff_call,↓eff_append,↓eff_copy,↓eff_cap,↓eff_clear,↓eff_make,↓reduceIte,↓c_condI,↓c_seqH,↓c_blockH,↓then_nH,↓then_rH,↓then_eH,↓block_nH,↓block_rH,↓block_eH,go_sem,c1,c3,hw,hgt,hadd,c4,partSV,List.length_map]
    refine ⟨b - 1,[.slice m 1 (ls.map partSV),.any,.any,i64 (lens (ls.take (k + 1))),.any,.any,.any,.any,.any,.slice m 1 (ls.map partSV),i64 ls.length,i64 ((k + 1 : Nat) : Int),.any,.any,.any,.any,.any,.any,.any,.any,.any,.any,.any,.any,.any,.any,.any,.any,.any,.any,.any,.any,.any,.any,.any,.any],by omega,?_,k + 1,by omega,rfl⟩
    repeat (first | exact leEnv_nil | refine leEnv_any _ ?_ | refine leEnv_same _ ?_ | refine leEnv_norm _ ?_)
  obtain rfl : k = ls.length := by omega
  have c1 : ((ls.length : Int) < (ls.length : Int)) = False := eq_false (by omega)
  rw [List.take_length]
  simp -implicitDefEqProofs (maxSteps := 2000000) only [↓ops_nil,↓ops_none,↓ops_some,↓kd_eff,↓dr_nil,↓dr_cons,↓d1_none,↓d1_some,↓eff_store,↓eff_box,↓eff_alloc,↓eff_build,↓eff_buildSlice,↓eff_call,↓eff_append,↓eff_copy,↓eff_cap,↓eff_clear,↓eff_make,↓reduceIte,↓c_condI,↓c_seqH,↓c_blockH,↓then_nH,↓then_rH,↓then_eH,↓block_nH,↓block_rH,↓block_eH,go_sem,c1]
  refine grow_c _ hn _ _ fun v cs => ?_
  simp -implicitDefEqProofs (maxSteps := 2000000) only [↓ops_nil,↓ops_none,↓ops_some,↓kd_eff,↓dr_nil,↓dr_cons,↓d1_none,↓d1_some,↓eff_store,↓eff_box,↓eff_alloc,↓eff_build,↓eff_buildSlice,↓eff_call,↓eff_append,↓eff_copy,↓eff_cap,↓eff_clear,↓eff_make,↓reduceIte,↓c_condI,↓c_seqH,↓c_blockH,↓then_nH,↓then_rH,↓then_eH,↓block_nH,↓block_rH,↓block_eH,go_sem,List.length_map]
  refine awp_rounds [] (fun b2 e s2 => ∃ k v cs,k + b2 = ls.length ∧ s2 = s ++ [Ob.arr v 7 cs] ∧ cs.take (lens (ls.take k) * 7) = ((ls.take k).flatten.map celSV).flatMap SV.cells ∧ e = [.any,.any,.any,.any,.any,.any,.arr s.length v (lens (ls.take k)),.any,.any,.any,.any,.any,.any,.any,.any,.any,.any,.any,.any,.any,.any,.any,.any,.any,.any,.slice m 1 (ls.map partSV),i64 ls.length,i64 k,.any,.any,.any,.any,.any,.any,.any,.any]) (n := ls.length) ?_ ⟨0,v,cs,by omega,rfl,by simp [lens],rfl⟩ ?_
  · repeat (first | exact leEnv_nil | refine leEnv_any _ ?_ | refine leEnv_same _ ?_ | refine leEnv_norm _ ?_)
  clear cs v hkb b
  rintro b2 e s2 ⟨k,v,cs,hk,rfl,hcs,rfl⟩
  have q := arr_facts (show (s ++ [Ob.arr v 7 cs])[s.length]? = some (.arr v 7 cs) by simp)
  by_cases hlk : k < ls.length
  · have c2 : (k : Int) < (ls.length : Int) := by omega
    have c3 : (0 : Int) ≤ (k : Int) := by omega
    have hw := wrap1 (k := k) (by omega)
    have hgt := getm partSV hlk
    have hst := lens_step ls hlk
    have hle := lens_le ls (k + 1)
    have hap := app47 (n := lens (ls.take k) + ls[k].length) (by omega)
    have hok : ∀ s ∈ ls[k].map celSV,elemOk s = true := fun x hx => by
      obtain ⟨c,_,rfl⟩ := List.mem_map.1 hx
      rfl
    simp -implicitDefEqProofs (maxSteps := 2000000) only [↓ops_nil,↓ops_none,↓ops_some,↓kd_eff,↓dr_nil,↓dr_cons,↓d1_none,↓d1_some,↓eff_store,↓eff_box,↓eff_alloc,↓eff_build,↓eff_buildSlice,↓eff_call,↓eff_append,↓eff_copy,↓eff_cap,↓eff_clear,↓eff_make,↓reduceIte,↓c_condI,↓c_seqH,↓c_blockH,↓then_nH,↓then_rH,↓then_eH,↓block_nH,↓block_rH,↓block_eH,go_sem,c2,c3,hw,hgt,partSV,List.length_map,q.1,q.2.1,q.2.2.1,q.2.2.2]
    refine ⟨hap,hok,b2 - 1,[.any,.any,.any,.any,.any,.any,.arr s.length (v + 1) (lens (ls.take (k + 1))),.any,.any,.any,.any,.any,.any,.any,.any,.any,.any,.any,.any,.any,.any,.any,.any,.any,.any,.slice m 1 (ls.map partSV),i64 ls.length,i64 ((k + 1 : Nat) : Int),.any,.any,.any,.any,.any,.any,.any,.any],by omega,?_,k + 1,v + 1,_,by omega,rfl,?_,rfl⟩
    · rw [hst]
      repeat (first | exact leEnv_nil | refine leEnv_any _ ?_ | refine leEnv_same _ ?_ | refine leEnv_norm _ ?_)
    · have hlen : (List.take (lens (ls.take k) * 7) cs).length = lens (ls.take k) * 7 := by rw [hcs,cels_len,flat_len']
      rw [flat_step ls hlk,List.map_append,List.flatMap_append,← hcs,List.take_of_length_le]
      rw [List.length_append,hlen,cels_len,hst]
      omega
  obtain rfl : k = ls.length := by omega
  rw [List.take_length] at hcs ⊢
  simp -implicitDefEqProofs (maxSteps := 2000000) only [↓ops_nil,↓ops_none,↓ops_some,↓kd_eff,↓dr_nil,↓dr_cons,↓d1_none,↓d1_some,↓eff_store,↓eff_box,↓eff_alloc,↓eff_build,↓eff_buildSlice,↓eff_call,↓eff_append,↓eff_copy,↓eff_cap,↓eff_clear,↓eff_make,↓reduceIte,↓c_condI,↓c_seqH,↓c_blockH,↓then_nH,↓then_rH,↓then_eH,↓block_nH,↓block_rH,↓block_eH,go_sem,c1]
  exact ⟨v,lens ls,7,cs,ls.flatten.map celSV,[],rfl,rfl,hcs,by rw [List.length_map,flat_len'],fun x hx => by (obtain ⟨c,_,rfl⟩ := List.mem_map.1 hx; rfl),ids_cels _ .imm (.inl rfl) _,h⟩
end Go.Proofs
