/- Nodes in an array; slices.IndexFunc, ContainsFunc and the insertion over it; tree.heads. -/
import Derived.Test.YtcanmhognofheaaW33
set_option linter.all false
set_option maxHeartbeats 4000000
set_option linter.unusedSimpArgs false
set_option linter.unusedVariables false
set_option maxRecDepth 8000
namespace Go.Proofs
open Go Go.AL
def flatN (l : List Nd) : List SV := (l.map nodeSV).flatMap SV.cells
theorem flatN_len (l : List Nd) : (flatN l).length = l.length * 6 := by
  induction l with
  | nil => rfl
  | cons c r ih =>
    have : flatN (c :: r) = (nodeSV c).cells ++ flatN r := rfl
    rw [this,List.length_append,ih,node_len,List.length_cons]; omega
theorem flatN_append (a b : List Nd) : flatN (a ++ b) = flatN a ++ flatN b := by simp [flatN]
theorem flatN_at (l : List Nd) (t : List SV) {k : Nat} (h : k < l.length) : ((flatN l ++ t).drop (k * 6)).take 6 = (nodeSV (l.getD k default)).cells := by
  have e : l = l.take k ++ l.getD k default :: l.drop (k + 1) := by
    rw [List.getD_eq_getElem?_getD,List.getElem?_eq_getElem h,Option.getD_some]
    simp
  have hk : (flatN (l.take k)).length = k * 6 := by rw [flatN_len,List.length_take]; omega
  have hc : flatN (l.getD k default :: l.drop (k + 1)) = (nodeSV (l.getD k default)).cells ++ flatN (l.drop (k + 1)) := rfl
  have hx : flatN l = flatN (l.take k) ++ ((nodeSV (l.getD k default)).cells ++ flatN (l.drop (k + 1))) := by rw [← hc,← flatN_append,← e]
  rw [hx,List.append_assoc,← hk,List.drop_left,List.append_assoc,← node_len (l.getD k default),List.take_left]
theorem flatN_cell (l : List Nd) (t : List SV) {k : Nat} (h : k < l.length) : cellsOf Try.prog 27 ((flatN l ++ t).drop (k * 6)) = some (nodeSV (l.getD k default)) := by
  have h1 := flatN_at l t h
  have h2 : 6 ≤ ((flatN l ++ t).drop (k * 6)).length := by
    have := congrArg List.length h1
    rw [node_len,List.length_take] at this
    omega
  generalize (flatN l ++ t).drop (k * 6) = m at h1 h2
  unfold cellsOf
  simp only [Try.aagg27,Try.asize27]
  simp [h1,h2]
  rw [nodeSV_eq]; rfl
theorem flatN_set (X : List Nd) (v : Nd) (t : List SV) {i : Nat} (h : i < X.length) : (flatN X ++ t).take (i * 6) ++ ((nodeSV v).cells ++ (flatN X ++ t).drop (i * 6 + 6)) = flatN (X.set i v) ++ t := by
  have e : X = X.take i ++ X[i] :: X.drop (i + 1) := by simp
  have hk : (flatN (X.take i)).length = i * 6 := by rw [flatN_len,List.length_take]; omega
  have hc : ∀ c,flatN (c :: X.drop (i + 1)) = (nodeSV c).cells ++ flatN (X.drop (i + 1)) := fun _ => rfl
  have hx : flatN X = flatN (X.take i) ++ ((nodeSV X[i]).cells ++ flatN (X.drop (i + 1))) := by rw [← hc,← flatN_append,← e]
  have hs : flatN (X.set i v) = flatN (X.take i) ++ ((nodeSV v).cells ++ flatN (X.drop (i + 1))) := by rw [← hc,← flatN_append,List.set_eq_take_append_cons_drop,if_pos h]
  rw [hs,hx]
  simp only [List.append_assoc]
  rw [← hk,List.take_left,← List.drop_drop,List.drop_left]
  have : (6 : Nat) = (nodeSV X[i]).cells.length := (node_len _).symm
  rw [this,List.drop_left]
theorem flatN_cell0 (l : List Nd) {k : Nat} (h : k < l.length) : cellsOf Try.prog 27 ((flatN l).drop (k * 6)) = some (nodeSV l[k]) := by
  have := flatN_cell l [] h
  rw [List.append_nil] at this
  rw [this,getd h]
theorem flatN_splice (l : List Nd) (x : Nd) {k : Nat} (h : k < l.length) : splice (flatN l) (k * 6) (nodeSV x).cells = flatN (l.set k x) := by
  have := flatN_set l x [] h
  rw [List.append_nil,List.append_nil] at this
  rw [← this]
  unfold splice
  rw [node_len,List.append_assoc]
theorem index69a_c (id v : Nat) (L : List Nd) (p : Nd → Bool) (g : FuncId) (caps : List SV) (hg : aBody Try.prog g = true) (hlen : L.length ≤ 100000) (st : St) (hid : st[id]? = some (.arr v 6 (flatN L)))
    (hp : ∀ x ∈ L,∀ K : SV → St → Prop,K (.sc (.bool (p x))) st → ACalls Try.prog g ([nodeSV x] ++ caps) K st) (K : SV → St → Prop) (h : K (i64 (idxA p L)) st) :
    ACalls Try.prog 69 [.arr id v L.length,.func (.func g) [] caps] K st := by
  refine acalls_go_pure [] Try.func69 rfl Try.results69 Try.ntmps69 ?_
  have q := arr_facts hid
  simp -implicitDefEqProofs (maxSteps := 2000000) only [↓ops_nil,↓ops_none,↓ops_some,↓kd_eff,↓dr_nil,↓dr_cons,↓d1_none,↓d1_some,↓eff_store,↓eff_box,↓eff_alloc,↓eff_build,↓eff_buildSlice,↓eff_call,↓eff_append,↓eff_copy,↓eff_cap,↓eff_clear,↓eff_make,↓reduceIte,↓c_condI,↓c_seqH,↓c_blockH,↓then_nH,↓then_rH,↓then_eH,↓block_nH,↓block_rH,↓block_eH,go_sem,q.1,q.2.1,q.2.2.1,q.2.2.2]
  refine awp_rounds [] (fun b e s => ∃ k,k + b = L.length ∧ (∀ j,j < k → ∀ x,L[j]? = some x → p x = false) ∧ e = [.arr id v L.length,.func (.func g) [] caps,.any,.any,.any,.any,.any,i64 L.length,i64 k,.any,.any,.any,.any,.any,.any,.any,.any,.any,.any] ∧ s = st) (n := L.length) ?_ ⟨0,by omega,fun j hj => absurd hj (Nat.not_lt_zero _),rfl,rfl⟩ ?_
  · repeat (first | exact leEnv_nil | refine leEnv_any _ ?_ | refine leEnv_same _ ?_ | refine leEnv_norm _ ?_)
  rintro b e s ⟨k,hk,hno,rfl,rfl⟩
  by_cases hlt : k < L.length
  · have c1 : (k : Int) < (L.length : Int) := by omega
    have c3 : (0 : Int) ≤ (k : Int) := by omega
    have hw := wrap1 (k := k) (by omega)
    have hcell := flatN_cell0 L hlt
    have hmem : L[k] ∈ L := List.getElem_mem hlt
    rcases (Bool.eq_false_or_eq_true (p L[k])).symm with hL | hL
    · simp -implicitDefEqProofs (maxSteps := 2000000) only [↓ops_nil,↓ops_none,↓ops_some,↓kd_eff,↓dr_nil,↓dr_cons,↓d1_none,↓d1_some,↓eff_store,↓eff_box,↓eff_alloc,↓eff_build,↓eff_buildSlice,↓eff_call,↓eff_append,↓eff_copy,↓eff_cap,↓eff_clear,↓eff_make,↓reduceIte,↓c_condI,↓c_seqH,↓c_blockH,↓then_nH,↓then_rH,↓then_eH,↓block_nH,↓block_rH,↓block_eH,go_sem,c1,c3,hw,hg,hcell,q.1,q.2.1,q.2.2.1,q.2.2.2,Int.toNat_natCast]
      refine hp _ hmem _ ?_
      rw [hL]
      simp -implicitDefEqProofs (maxSteps := 2000000) only [↓ops_nil,↓ops_none,↓ops_some,↓kd_eff,↓dr_nil,↓dr_cons,↓d1_none,↓d1_some,↓eff_store,↓eff_box,↓eff_alloc,↓eff_build,↓eff_buildSlice,↓eff_call,↓eff_append,↓eff_copy,↓eff_cap,↓eff_clear,↓eff_make,↓reduceIte,↓c_condI,↓c_seqH,↓c_blockH,↓then_nH,↓then_rH,↓then_eH,↓block_nH,↓block_rH,↓block_eH,go_sem,hw]
      refine ⟨b - 1,_,by omega,?_,k + 1,by omega,fun j hj x hx => ?_,rfl⟩
      · repeat (first | exact leEnv_nil | refine leEnv_any _ ?_ | refine leEnv_same _ ?_ | refine leEnv_norm _ ?_)
      · by_cases e : j = k
        · subst e
          rw [List.getElem?_eq_getElem hlt] at hx
          cases hx
          exact hL
        · exact hno j (by omega) x hx
    · simp -implicitDefEqProofs (maxSteps := 2000000) only [↓ops_nil,↓ops_none,↓ops_some,↓kd_eff,↓dr_nil,↓dr_cons,↓d1_none,↓d1_some,↓eff_store,↓eff_box,↓eff_alloc,↓eff_build,↓eff_buildSlice,↓eff_call,↓eff_append,↓eff_copy,↓eff_cap,↓eff_clear,↓eff_make,↓reduceIte,↓c_condI,↓c_seqH,↓c_blockH,↓then_nH,↓then_rH,↓then_eH,↓block_nH,↓block_rH,↓block_eH,go_sem,c1,c3,hw,hg,hcell,q.1,q.2.1,q.2.2.1,q.2.2.2,Int.toNat_natCast]
      refine hp _ hmem _ ?_
      rw [hL]
      rw [idxA_some hlt hno hL] at h
      simp -implicitDefEqProofs (maxSteps := 2000000) only [↓ops_nil,↓ops_none,↓ops_some,↓kd_eff,↓dr_nil,↓dr_cons,↓d1_none,↓d1_some,↓eff_store,↓eff_box,↓eff_alloc,↓eff_build,↓eff_buildSlice,↓eff_call,↓eff_append,↓eff_copy,↓eff_cap,↓eff_clear,↓eff_make,↓reduceIte,↓c_condI,↓c_seqH,↓c_blockH,↓then_nH,↓then_rH,↓then_eH,↓block_nH,↓block_rH,↓block_eH,go_sem]
      exact fin_sc h
  · obtain rfl : k = L.length := by omega
    have c1 : ((L.length : Int) < (L.length : Int)) = False := eq_false (by omega)
    rw [idxA_none hno] at h
    simp -implicitDefEqProofs (maxSteps := 2000000) only [↓ops_nil,↓ops_none,↓ops_some,↓kd_eff,↓dr_nil,↓dr_cons,↓d1_none,↓d1_some,↓eff_store,↓eff_box,↓eff_alloc,↓eff_build,↓eff_buildSlice,↓eff_call,↓eff_append,↓eff_copy,↓eff_cap,↓eff_clear,↓eff_make,↓reduceIte,↓c_condI,↓c_seqH,↓c_blockH,↓then_nH,↓then_rH,↓then_eH,↓block_nH,↓block_rH,↓block_eH,go_sem,c1]
    exact fin_sc h
theorem contains41a_c (id v : Nat) (L : List Nd) (p : Nd → Bool) (g : FuncId) (caps : List SV) (hg : aBody Try.prog g = true) (hlen : L.length ≤ 100000) (st : St) (hid : st[id]? = some (.arr v 6 (flatN L)))
    (hp : ∀ x ∈ L,∀ K : SV → St → Prop,K (.sc (.bool (p x))) st → ACalls Try.prog g ([nodeSV x] ++ caps) K st) (K : SV → St → Prop) (h : K (.sc (.bool (L.any p))) st) :
    ACalls Try.prog 41 [.arr id v L.length,.func (.func g) [] caps] K st := by
  refine acalls_go_pure [] Try.func41 rfl Try.results41 Try.ntmps41 ?_
  simp -implicitDefEqProofs (maxSteps := 2000000) only [↓ops_nil,↓ops_none,↓ops_some,↓kd_eff,↓dr_nil,↓dr_cons,↓d1_none,↓d1_some,↓eff_store,↓eff_box,↓eff_alloc,↓eff_build,↓eff_buildSlice,↓eff_call,↓eff_append,↓eff_copy,↓eff_cap,↓eff_clear,↓eff_make,↓reduceIte,↓c_condI,↓c_seqH,↓c_blockH,↓then_nH,↓then_rH,↓then_eH,↓block_nH,↓block_rH,↓block_eH,go_sem]
  refine index69a_c id v L p g caps hg hlen st hid hp _ ?_
  simp -implicitDefEqProofs (maxSteps := 2000000) only [↓ops_nil,↓ops_none,↓ops_some,↓kd_eff,↓dr_nil,↓dr_cons,↓d1_none,↓d1_some,↓eff_store,↓eff_box,↓eff_alloc,↓eff_build,↓eff_buildSlice,↓eff_call,↓eff_append,↓eff_copy,↓eff_cap,↓eff_clear,↓eff_make,↓reduceIte,↓c_condI,↓c_seqH,↓c_blockH,↓then_nH,↓then_rH,↓then_eH,↓block_nH,↓block_rH,↓block_eH,go_sem,idxA_any]
  exact fin_sc h
@[go_sem] theorem aft41_2 : aFieldT Try.prog 41 2 = some (2,3) := by kernel_rfl
@[go_sem] theorem aft41_4 : aFieldT Try.prog 41 4 = some (4,3) := by kernel_rfl
theorem kept_sc {st : St} {v : Value} : Kept st (.sc v) (.sc v) st := ⟨⟨[],by simp⟩,.sc _,.inl rfl⟩
theorem isNaN_c (n : Int) (K : SV → St → Prop) (st : St) (h : K (.sc (.bool false)) st) : ACalls Try.prog 73 [i64 n] K st := by
  refine acalls_go_pure [] Try.func73 rfl Try.results73 Try.ntmps73 ?_
  have e : (n != n) = false := by simp
  simp -implicitDefEqProofs (maxSteps := 2000000) only [↓ops_nil,↓ops_none,↓ops_some,↓kd_eff,↓dr_nil,↓dr_cons,↓d1_none,↓d1_some,↓eff_store,↓eff_box,↓eff_alloc,↓eff_build,↓eff_buildSlice,↓eff_call,↓eff_append,↓eff_copy,↓eff_cap,↓eff_clear,↓eff_make,↓reduceIte,↓c_condI,↓c_seqH,↓c_blockH,↓then_nH,↓then_rH,↓then_eH,↓block_nH,↓block_rH,↓block_eH,go_sem,e]
  exact fin_sc h
def cmpF (a b : Int) : Int := if a < b then -1 else if b < a then 1 else 0
theorem compare_c (a b : Int) (K : SV → St → Prop) (st : St) (h : K (i64 (cmpF a b)) st) : ACalls Try.prog 56 [i64 a,i64 b] K st := by
  refine acalls_go_pure [] Try.func56 rfl Try.results56 Try.ntmps56 ?_
  unfold cmpF at h
  simp -implicitDefEqProofs (maxSteps := 2000000) only [↓ops_nil,↓ops_none,↓ops_some,↓kd_eff,↓dr_nil,↓dr_cons,↓d1_none,↓d1_some,↓eff_store,↓eff_box,↓eff_alloc,↓eff_build,↓eff_buildSlice,↓eff_call,↓eff_append,↓eff_copy,↓eff_cap,↓eff_clear,↓eff_make,↓reduceIte,↓c_condI,↓c_seqH,↓c_blockH,↓then_nH,↓then_rH,↓then_eH,↓block_nH,↓block_rH,↓block_eH,go_sem]
  refine isNaN_c _ _ _ ?_
  simp -implicitDefEqProofs (maxSteps := 2000000) only [↓ops_nil,↓ops_none,↓ops_some,↓kd_eff,↓dr_nil,↓dr_cons,↓d1_none,↓d1_some,↓eff_store,↓eff_box,↓eff_alloc,↓eff_build,↓eff_buildSlice,↓eff_call,↓eff_append,↓eff_copy,↓eff_cap,↓eff_clear,↓eff_make,↓reduceIte,↓c_condI,↓c_seqH,↓c_blockH,↓then_nH,↓then_rH,↓then_eH,↓block_nH,↓block_rH,↓block_eH,go_sem]
  refine isNaN_c _ _ _ ?_
  by_cases h1 : a < b
  · rw [if_pos h1] at h
    simp -implicitDefEqProofs (maxSteps := 2000000) only [↓ops_nil,↓ops_none,↓ops_some,↓kd_eff,↓dr_nil,↓dr_cons,↓d1_none,↓d1_some,↓eff_store,↓eff_box,↓eff_alloc,↓eff_build,↓eff_buildSlice,↓eff_call,↓eff_append,↓eff_copy,↓eff_cap,↓eff_clear,↓eff_make,↓reduceIte,↓c_condI,↓c_seqH,↓c_blockH,↓then_nH,↓then_rH,↓then_eH,↓block_nH,↓block_rH,↓block_eH,go_sem,h1]
    exact fin_sc h
  · rw [if_neg h1] at h
    by_cases h2 : b < a
    · rw [if_pos h2] at h
      simp -implicitDefEqProofs (maxSteps := 2000000) only [↓ops_nil,↓ops_none,↓ops_some,↓kd_eff,↓dr_nil,↓dr_cons,↓d1_none,↓d1_some,↓eff_store,↓eff_box,↓eff_alloc,↓eff_build,↓eff_buildSlice,↓eff_call,↓eff_append,↓eff_copy,↓eff_cap,↓eff_clear,↓eff_make,↓reduceIte,↓c_condI,↓c_seqH,↓c_blockH,↓then_nH,↓then_rH,↓then_eH,↓block_nH,↓block_rH,↓block_eH,go_sem,h1,h2]
      exact fin_sc h
    · rw [if_neg h2] at h
      simp -implicitDefEqProofs (maxSteps := 2000000) only [↓ops_nil,↓ops_none,↓ops_some,↓kd_eff,↓dr_nil,↓dr_cons,↓d1_none,↓d1_some,↓eff_store,↓eff_box,↓eff_alloc,↓eff_build,↓eff_buildSlice,↓eff_call,↓eff_append,↓eff_copy,↓eff_cap,↓eff_clear,↓eff_make,↓reduceIte,↓c_condI,↓c_seqH,↓c_blockH,↓then_nH,↓then_rH,↓then_eH,↓block_nH,↓block_rH,↓block_eH,go_sem,h1,h2]
      exact fin_sc h
def tagF (E : Eqs) (n : Nd) : Int := (cnOf E n).tag
theorem heads2_c (cons : List Cn) (hb : cons.length ≤ 1000000) (x y : Nd) (id : Nat) (m : Int) (K : SV → St → Prop) (st : St) (hB : BAt st id cons m) (E : Eqs) (hE : E.fc = findC cons) (h : K (i64 (cmpF (tagF E x) (tagF E y))) st) :
    ACalls Try.prog 55 [nodeSV x,nodeSV y,.ref [.ptr id 0]] K st := by
  refine acalls_go_pure [] Try.func55 rfl Try.results55 Try.ntmps55 ?_
  unfold tagF cnOf at h
  rw [hE] at h
  simp -implicitDefEqProofs (maxSteps := 2000000) only [↓ops_nil,↓ops_none,↓ops_some,↓kd_eff,↓dr_nil,↓dr_cons,↓d1_none,↓d1_some,↓eff_store,↓eff_box,↓eff_alloc,↓eff_build,↓eff_buildSlice,↓eff_call,↓eff_append,↓eff_copy,↓eff_cap,↓eff_clear,↓eff_make,↓reduceIte,↓c_condI,↓c_seqH,↓c_blockH,↓then_nH,↓then_rH,↓then_eH,↓block_nH,↓block_rH,↓block_eH,go_sem]
  refine awp_drawH [] Try.mixed rfl fun R hR => ?_
  simp -implicitDefEqProofs (maxSteps := 2000000) only [↓ops_nil,↓ops_none,↓ops_some,↓kd_eff,↓dr_nil,↓dr_cons,↓d1_none,↓d1_some,↓eff_store,↓eff_box,↓eff_alloc,↓eff_build,↓eff_buildSlice,↓eff_call,↓eff_append,↓eff_copy,↓eff_cap,↓eff_clear,↓eff_make,↓reduceIte,↓c_condI,↓c_seqH,↓c_blockH,↓then_nH,↓then_rH,↓then_eH,↓block_nH,↓block_rH,↓block_eH,go_sem]
  rw [dk_eff]
  refine ⟨conSV ((findC cons x.text).getD default),?_,?_⟩
  · simp -implicitDefEqProofs (maxSteps := 2000000) only [↓ops_nil,↓ops_none,↓ops_some,↓kd_eff,↓dr_nil,↓dr_cons,↓d1_none,↓d1_some,↓eff_store,↓eff_box,↓eff_alloc,↓eff_build,↓eff_buildSlice,↓eff_call,↓eff_append,↓eff_copy,↓eff_cap,↓eff_clear,↓eff_make,↓reduceIte,↓c_condI,↓c_seqH,↓c_blockH,↓then_nH,↓then_rH,↓then_eH,↓block_nH,↓block_rH,↓block_eH,go_sem]
    refine find26_c cons hb id m _ _ _ hB ?_
    exact ⟨⟨[],by simp⟩,by rw [ids_con]; trivial,.inl rfl⟩
  simp -implicitDefEqProofs (maxSteps := 2000000) only [↓ops_nil,↓ops_none,↓ops_some,↓kd_eff,↓dr_nil,↓dr_cons,↓d1_none,↓d1_some,↓eff_store,↓eff_box,↓eff_alloc,↓eff_build,↓eff_buildSlice,↓eff_call,↓eff_append,↓eff_copy,↓eff_cap,↓eff_clear,↓eff_make,↓reduceIte,↓c_condI,↓c_seqH,↓c_blockH,↓then_nH,↓then_rH,↓then_eH,↓block_nH,↓block_rH,↓block_eH,go_sem,conSV]
  rw [dk_eff]
  refine ⟨conSV ((findC cons y.text).getD default),?_,?_⟩
  · simp -implicitDefEqProofs (maxSteps := 2000000) only [↓ops_nil,↓ops_none,↓ops_some,↓kd_eff,↓dr_nil,↓dr_cons,↓d1_none,↓d1_some,↓eff_store,↓eff_box,↓eff_alloc,↓eff_build,↓eff_buildSlice,↓eff_call,↓eff_append,↓eff_copy,↓eff_cap,↓eff_clear,↓eff_make,↓reduceIte,↓c_condI,↓c_seqH,↓c_blockH,↓then_nH,↓then_rH,↓then_eH,↓block_nH,↓block_rH,↓block_eH,go_sem]
    refine find26_c cons hb id m _ _ _ hB ?_
    exact ⟨⟨[],by simp⟩,by rw [ids_con]; trivial,.inl rfl⟩
  simp -implicitDefEqProofs (maxSteps := 2000000) only [↓ops_nil,↓ops_none,↓ops_some,↓kd_eff,↓dr_nil,↓dr_cons,↓d1_none,↓d1_some,↓eff_store,↓eff_box,↓eff_alloc,↓eff_build,↓eff_buildSlice,↓eff_call,↓eff_append,↓eff_copy,↓eff_cap,↓eff_clear,↓eff_make,↓reduceIte,↓c_condI,↓c_seqH,↓c_blockH,↓then_nH,↓then_rH,↓then_eH,↓block_nH,↓block_rH,↓block_eH,go_sem,conSV]
  rw [dk_eff]
  refine ⟨i64 (cmpF ((findC cons x.text).getD default).tag ((findC cons y.text).getD default).tag),?_,?_⟩
  · simp -implicitDefEqProofs (maxSteps := 2000000) only [↓ops_nil,↓ops_none,↓ops_some,↓kd_eff,↓dr_nil,↓dr_cons,↓d1_none,↓d1_some,↓eff_store,↓eff_box,↓eff_alloc,↓eff_build,↓eff_buildSlice,↓eff_call,↓eff_append,↓eff_copy,↓eff_cap,↓eff_clear,↓eff_make,↓reduceIte,↓c_condI,↓c_seqH,↓c_blockH,↓then_nH,↓then_rH,↓then_eH,↓block_nH,↓block_rH,↓block_eH,go_sem]
    refine compare_c _ _ _ _ ?_
    exact kept_sc
  rw [hR]
  simp -implicitDefEqProofs (maxSteps := 2000000) only [↓ops_nil,↓ops_none,↓ops_some,↓kd_eff,↓dr_nil,↓dr_cons,↓d1_none,↓d1_some,↓eff_store,↓eff_box,↓eff_alloc,↓eff_build,↓eff_buildSlice,↓eff_call,↓eff_append,↓eff_copy,↓eff_cap,↓eff_clear,↓eff_make,↓reduceIte,↓c_condI,↓c_seqH,↓c_blockH,↓then_nH,↓then_rH,↓then_eH,↓block_nH,↓block_rH,↓block_eH,go_sem]
  exact fin_sc h
end Go.Proofs
