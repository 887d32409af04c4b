/- The insertion (slices.SortFunc of few). -/
import Derived.Test.YtcanmhognofheaaW34
set_option linter.all false
set_option maxHeartbeats 4000000
set_option linter.unusedSimpArgs false
set_option linter.unusedVariables false
set_option maxRecDepth 8000
namespace Go.Proofs
open Go Go.AL
theorem cmpF_lt (a b : Int) : decide (cmpF a b < 0) = decide (a < b) := by
  unfold cmpF
  by_cases h1 : a < b
  · simp [h1]
  · by_cases h2 : b < a <;> simp [h1,h2]
theorem swap_mid (A B : List Nd) (x y : Nd) : ((A ++ y :: x :: B).set (A.length + 1) y).set A.length x = A ++ x :: y :: B := by
  rw [List.set_append_right _ _ (Nat.le_succ _),show A.length.succ - A.length = 1 by omega,List.set_cons_succ,List.set_cons_zero,List.set_append_right _ _ (Nat.le_refl _),Nat.sub_self,List.set_cons_zero]
theorem insR_len (f : Nd → Int) (x : Nd) : ∀ l : List Nd,(insR f x l).length = l.length + 1
  | [] => rfl
  | y :: r => by
    unfold insR
    split
    · rw [List.length_cons,insR_len f x r,List.length_cons]
    · rfl
theorem insAll_len (f : Nd → Int) : ∀ (l acc : List Nd),(insAll f acc l).length = acc.length + l.length
  | [],acc => by simp [insAll]
  | x :: r,acc => by rw [insAll,insAll_len f r,insR_len,List.length_cons]; omega
theorem flatN_put (l : List Nd) (x : Nd) {k : Nat} (h : k < l.length) : List.take (k * 6) (flatN l) ++ ((nodeSV x).cells ++ List.drop (k * 6 + 6) (flatN l)) = flatN (l.set k x) := by
  have := flatN_splice l x h
  unfold splice at this
  rw [node_len,List.append_assoc] at this
  exact this
theorem ins78_c (id v n : Nat) (x0 : Nd) (L' : List Nd) (hn : L'.length + 1 = n) (hn2 : n ≤ 1000) (f : Nd → Int) (g : FuncId) (caps : List SV) (hg : aBody Try.prog g = true) (st : St) (hid : st[id]? = some (.arr v 6 (flatN (x0 :: L'))))
    (hp : ∀ (x y : Nd) (s : St),(∃ cs,s = st.set id (.arr v 6 cs)) → ∀ K : SV → St → Prop,K (i64 (cmpF (f x) (f y))) s → ACalls Try.prog g ([nodeSV x,nodeSV y] ++ caps) K s)
    (K : SV → St → Prop) (h : K (.tuple []) (st.set id (.arr v 6 (flatN (sortF f (x0 :: L')))))) : ACalls Try.prog 78 [.arr id v n,i64 0,i64 n,.func (.func g) [] caps] K st := by
  have hlt := lt_of_get hid
  have h00 : st = st.set id (.arr v 6 (flatN (x0 :: L'))) := by
    rw [List.getElem?_eq_getElem hlt] at hid
    rw [← Option.some.inj hid,List.set_getElem_self]
  have hq : ∀ cs,(st.set id (.arr v 6 cs))[id]? = some (.arr v 6 cs) := fun cs => set_get hlt
  refine acalls_go (M := []) Try.func78 rfl Try.results78 Try.ntmps78 ?_
  have w1 : IntKind.i64.wrap 1 = 1 := by decide
  simp -implicitDefEqProofs (maxSteps := 2000000) only [↓ops_nil,↓ops_none,↓ops_some,↓kd_eff,↓dr_nil,↓dr_cons,↓d1_none,↓d1_some,↓eff_store,↓eff_box,↓eff_alloc,↓eff_build,↓eff_buildSlice,↓eff_call,↓eff_append,↓eff_copy,↓eff_cap,↓eff_clear,↓eff_make,↓reduceIte,↓c_condI,↓c_seqH,↓c_blockH,↓then_nH,↓then_rH,↓then_eH,↓block_nH,↓block_rH,↓block_eH,go_sem,Int.reduceAdd,w1]
  refine awp_rounds [] (fun b e s => ∃ acc rest,rest.length = b ∧ acc.length + b = n ∧ acc ≠ [] ∧ insAll f acc rest = sortF f (x0 :: L') ∧ s = st.set id (.arr v 6 (flatN (acc.reverse ++ rest))) ∧ e = [.arr id v n,i64 0,i64 n,.func (.func g) [] caps,.any,.any,.any,.any,i64 acc.length,.any,.any,.any,.any,.any,.any,.any,.any,.any,.any,.any,.any,.any,.any,.any,.any,.any,.any,.any,.any,.any,.any,.any,.any,.any,.any,.any,.any,.any,.any,.any,.any,.any,.any,.any,.any,.any,.any,.any,.any,.any,.any,.any,.any]) (n := L'.length) ?_ ⟨[x0],L',rfl,by simp; omega,by simp,rfl,h00,rfl⟩ ?_
  · repeat (first | exact leEnv_nil | refine leEnv_any _ ?_ | refine leEnv_same _ ?_ | refine leEnv_norm _ ?_)
  rintro b e s ⟨acc,rest,hb,hab,hne,hins,rfl,rfl⟩
  cases rest with
  | nil =>
    have hb0 : b = 0 := by rw [← hb]; rfl
    have c1 : ¬ (acc.length : Int) < (n : Int) := by omega
    rw [← hins] at h
    simp -implicitDefEqProofs (maxSteps := 2000000) only [↓ops_nil,↓ops_none,↓ops_some,↓kd_eff,↓dr_nil,↓dr_cons,↓d1_none,↓d1_some,↓eff_store,↓eff_box,↓eff_alloc,↓eff_build,↓eff_buildSlice,↓eff_call,↓eff_append,↓eff_copy,↓eff_cap,↓eff_clear,↓eff_make,↓reduceIte,↓c_condI,↓c_seqH,↓c_blockH,↓then_nH,↓then_rH,↓then_eH,↓block_nH,↓block_rH,↓block_eH,go_sem,c1]
    exact h
  | cons x r =>
    rw [List.length_cons] at hb
    have c1 : (acc.length : Int) < (n : Int) := by omega
    simp -implicitDefEqProofs (maxSteps := 2000000) only [↓ops_nil,↓ops_none,↓ops_some,↓kd_eff,↓dr_nil,↓dr_cons,↓d1_none,↓d1_some,↓eff_store,↓eff_box,↓eff_alloc,↓eff_build,↓eff_buildSlice,↓eff_call,↓eff_append,↓eff_copy,↓eff_cap,↓eff_clear,↓eff_make,↓reduceIte,↓c_condI,↓c_seqH,↓c_blockH,↓then_nH,↓then_rH,↓then_eH,↓block_nH,↓block_rH,↓block_eH,go_sem,c1]
    refine awp_rounds [] (fun b2 e s => ∃ P a2,a2.length = b2 ∧ P ++ insR f x a2 = insR f x acc ∧ P.length + a2.length = acc.length ∧ s = st.set id (.arr v 6 (flatN (a2.reverse ++ x :: (P.reverse ++ r)))) ∧ e = [.arr id v n,i64 0,i64 n,.func (.func g) [] caps,.any,.any,.any,.any,i64 acc.length,i64 a2.length,.any,.any,.any,.any,.any,.any,.any,.any,.any,.any,.any,.any,.any,.any,.any,.any,.any,.any,.any,.any,.any,.any,.any,.any,.any,.any,.any,.any,.any,.any,.any,.any,.any,.any,.any,.any,.any,.any,.any,.any,.any,.any,.any]) (n := acc.length) ?_ ⟨[],acc,rfl,rfl,by simp,rfl,rfl⟩ ?_
    · repeat (first | exact leEnv_nil | refine leEnv_any _ ?_ | refine leEnv_same _ ?_ | refine leEnv_norm _ ?_)
    rintro b2 e s ⟨P,a2,hb2,hP,hPl,rfl,rfl⟩
    have q := arr_facts (hq (flatN (a2.reverse ++ x :: (P.reverse ++ r))))
    cases a2 with
    | nil =>
      have c2 : ¬ (0 : Int) < (0 : Int) := by decide
      have ez : ((([] : List Nd).length : Nat) : Int) = 0 := rfl
      rw [ez]
      have hw := wrap1 (k := acc.length) (by omega)
      have hPl' : P.length = acc.length := by simpa using hPl
      simp -implicitDefEqProofs (maxSteps := 2000000) only [↓ops_nil,↓ops_none,↓ops_some,↓kd_eff,↓dr_nil,↓dr_cons,↓d1_none,↓d1_some,↓eff_store,↓eff_box,↓eff_alloc,↓eff_build,↓eff_buildSlice,↓eff_call,↓eff_append,↓eff_copy,↓eff_cap,↓eff_clear,↓eff_make,↓reduceIte,↓c_condI,↓c_seqH,↓c_blockH,↓then_nH,↓then_rH,↓then_eH,↓block_nH,↓block_rH,↓block_eH,go_sem,c2]
      refine awp_drawH [] Try.mixed rfl fun R hR => ?_
      simp -implicitDefEqProofs (maxSteps := 2000000) only [↓ops_nil,↓ops_none,↓ops_some,↓kd_eff,↓dr_nil,↓dr_cons,↓d1_none,↓d1_some,↓eff_store,↓eff_box,↓eff_alloc,↓eff_build,↓eff_buildSlice,↓eff_call,↓eff_append,↓eff_copy,↓eff_cap,↓eff_clear,↓eff_make,↓reduceIte,↓c_condI,↓c_seqH,↓c_blockH,↓then_nH,↓then_rH,↓then_eH,↓block_nH,↓block_rH,↓block_eH,go_sem,c2]
      rw [dg_eff]
      refine ⟨by simp -implicitDefEqProofs (maxSteps := 2000000) only [↓ops_nil,↓ops_none,↓ops_some,↓kd_eff,↓dr_nil,↓dr_cons,↓d1_none,↓d1_some,↓eff_store,↓eff_box,↓eff_alloc,↓eff_build,↓eff_buildSlice,↓eff_call,↓eff_append,↓eff_copy,↓eff_cap,↓eff_clear,↓eff_make,↓reduceIte,↓c_condI,↓c_seqH,↓c_blockH,↓then_nH,↓then_rH,↓then_eH,↓block_nH,↓block_rH,↓block_eH,go_sem,gAll],i64 0,fun h => (by cases h),?_⟩
      rw [hR]
      simp -implicitDefEqProofs (maxSteps := 2000000) only [↓ops_nil,↓ops_none,↓ops_some,↓kd_eff,↓dr_nil,↓dr_cons,↓d1_none,↓d1_some,↓eff_store,↓eff_box,↓eff_alloc,↓eff_build,↓eff_buildSlice,↓eff_call,↓eff_append,↓eff_copy,↓eff_cap,↓eff_clear,↓eff_make,↓reduceIte,↓c_condI,↓c_seqH,↓c_blockH,↓then_nH,↓then_rH,↓then_eH,↓block_nH,↓block_rH,↓block_eH,go_sem,hw]
      have hl2 : (P ++ [x]).length = acc.length + 1 := by rw [List.length_append,hPl']; rfl
      refine ⟨b - 1,[.arr id v n,i64 0,i64 n,.func (.func g) [] caps,.any,.any,.any,.any,i64 (((P ++ [x]).length : Nat) : Int),.any,.any,.any,.any,.any,.any,.any,.any,.any,.any,.any,.any,.any,.any,.any,.any,.any,.any,.any,.any,.any,.any,.any,.any,.any,.any,.any,.any,.any,.any,.any,.any,.any,.any,.any,.any,.any,.any,.any,.any,.any,.any,.any,.any],by omega,?_,P ++ [x],r,by omega,by omega,by simp,?_,?_,rfl⟩
      · rw [hl2]
        repeat (first | exact leEnv_nil | refine leEnv_any _ ?_ | refine leEnv_same _ ?_ | refine leEnv_norm _ ?_)
      · rw [← hins,insAll,← hP]; rfl
      · congr 3; simp
    | cons y a2 =>
      have hlen : (y :: a2).length = a2.length + 1 := rfl
      have c2 : (0 : Int) < ((a2.length + 1 : Nat) : Int) := by omega
      have c4 : (0 : Int) ≤ ((a2.length : Nat) : Int) := by omega
      have c5 : (0 : Int) ≤ (((a2.length + 1 : Nat)) : Int) := by omega
      have hle : a2.length + 1 ≤ acc.length := by rw [hlen] at hPl; omega
      have c6 : ((a2.length : Nat) : Int) < (n : Int) := by omega
      have c7 : ((a2.length + 1 : Nat) : Int) < (n : Int) := by omega
      have hwm := wrapm (k := a2.length) (by omega)
      obtain ⟨C,hC⟩ : ∃ C,(y :: a2).reverse ++ x :: (P.reverse ++ r) = C := ⟨_,rfl⟩
      have hC2 : a2.reverse ++ y :: x :: (P.reverse ++ r) = C := by rw [← hC]; simp
      have hCl : C.length = n := by
        rw [← hC]; simp only [List.length_append,List.length_reverse,List.length_cons]; omega
      rw [hC] at q ⊢
      have hal : a2.reverse.length = a2.length := List.length_reverse
      have e0 : ∀ h : a2.length < C.length,C[a2.length] = y := by
        intro h
        have : C[a2.length]? = some y := by rw [← hC2,← hal]; simp
        rw [List.getElem?_eq_getElem h] at this
        exact Option.some.inj this
      have e1 : ∀ h : a2.length + 1 < C.length,C[a2.length + 1] = x := by
        intro h
        have : C[a2.length + 1]? = some x := by rw [← hC2,← hal,List.getElem?_append_right (by omega)]; simp
        rw [List.getElem?_eq_getElem h] at this
        exact Option.some.inj this
      have g0 := flatN_cell0 C (k := a2.length) (by omega)
      have g1 := flatN_cell0 C (k := a2.length + 1) (by omega)
      rw [e0] at g0
      rw [e1] at g1
      rw [hlen]
      have hpx := hp x y (st.set id (.arr v 6 (flatN C))) ⟨_,rfl⟩
      by_cases hlt2 : f x < f y
      · have hdec : cmpF (f x) (f y) < 0 := by have := cmpF_lt (f x) (f y); rw [decide_eq_true hlt2] at this; exact of_decide_eq_true this
        simp -implicitDefEqProofs (maxSteps := 2000000) only [↓ops_nil,↓ops_none,↓ops_some,↓kd_eff,↓dr_nil,↓dr_cons,↓d1_none,↓d1_some,↓eff_store,↓eff_box,↓eff_alloc,↓eff_build,↓eff_buildSlice,↓eff_call,↓eff_append,↓eff_copy,↓eff_cap,↓eff_clear,↓eff_make,↓reduceIte,↓c_condI,↓c_seqH,↓c_blockH,↓then_nH,↓then_rH,↓then_eH,↓block_nH,↓block_rH,↓block_eH,go_sem,c2]
        refine awp_drawH [] Try.mixed rfl fun R hR => ?_
        simp -implicitDefEqProofs (maxSteps := 2000000) only [↓ops_nil,↓ops_none,↓ops_some,↓kd_eff,↓dr_nil,↓dr_cons,↓d1_none,↓d1_some,↓eff_store,↓eff_box,↓eff_alloc,↓eff_build,↓eff_buildSlice,↓eff_call,↓eff_append,↓eff_copy,↓eff_cap,↓eff_clear,↓eff_make,↓reduceIte,↓c_condI,↓c_seqH,↓c_blockH,↓then_nH,↓then_rH,↓then_eH,↓block_nH,↓block_rH,↓block_eH,go_sem,c2,c4,c5,c6,c7,hwm,q.1,q.2.1,q.2.2.1,q.2.2.2,g0,g1,Int.toNat_natCast]
        rw [dg_eff]
        refine ⟨by simp -implicitDefEqProofs (maxSteps := 2000000) only [↓ops_nil,↓ops_none,↓ops_some,↓kd_eff,↓dr_nil,↓dr_cons,↓d1_none,↓d1_some,↓eff_store,↓eff_box,↓eff_alloc,↓eff_build,↓eff_buildSlice,↓eff_call,↓eff_append,↓eff_copy,↓eff_cap,↓eff_clear,↓eff_make,↓reduceIte,↓c_condI,↓c_seqH,↓c_blockH,↓then_nH,↓then_rH,↓then_eH,↓block_nH,↓block_rH,↓block_eH,go_sem,gAll],i64 (cmpF (f x) (f y)),fun _ => ?_,?_⟩
        · simp -implicitDefEqProofs (maxSteps := 2000000) only [↓ops_nil,↓ops_none,↓ops_some,↓kd_eff,↓dr_nil,↓dr_cons,↓d1_none,↓d1_some,↓eff_store,↓eff_box,↓eff_alloc,↓eff_build,↓eff_buildSlice,↓eff_call,↓eff_append,↓eff_copy,↓eff_cap,↓eff_clear,↓eff_make,↓reduceIte,↓c_condI,↓c_seqH,↓c_blockH,↓then_nH,↓then_rH,↓then_eH,↓block_nH,↓block_rH,↓block_eH,go_sem,hg]
          refine hpx _ ?_
          exact kept_sc
        simp -implicitDefEqProofs (maxSteps := 2000000) only [↓ops_nil,↓ops_none,↓ops_some,↓kd_eff,↓dr_nil,↓dr_cons,↓d1_none,↓d1_some,↓eff_store,↓eff_box,↓eff_alloc,↓eff_build,↓eff_buildSlice,↓eff_call,↓eff_append,↓eff_copy,↓eff_cap,↓eff_clear,↓eff_make,↓reduceIte,↓c_condI,↓c_seqH,↓c_blockH,↓then_nH,↓then_rH,↓then_eH,↓block_nH,↓block_rH,↓block_eH,go_sem,hdec]
        rw [hR]
        simp -implicitDefEqProofs (maxSteps := 2000000) only [↓ops_nil,↓ops_none,↓ops_some,↓kd_eff,↓dr_nil,↓dr_cons,↓d1_none,↓d1_some,↓eff_store,↓eff_box,↓eff_alloc,↓eff_build,↓eff_buildSlice,↓eff_call,↓eff_append,↓eff_copy,↓eff_cap,↓eff_clear,↓eff_make,↓reduceIte,↓c_condI,↓c_seqH,↓c_blockH,↓then_nH,↓then_rH,↓then_eH,↓block_nH,↓block_rH,↓block_eH,go_sem]
        have s1 := flatN_put C y (k := a2.length + 1) (by omega)
        have s2 := flatN_put (C.set (a2.length + 1) y) x (k := a2.length) (by rw [List.length_set]; omega)
        have hfl : (flatN C).length = n * 6 := by rw [flatN_len,hCl]
        have b1 : (a2.length + 1) * 6 + 6 ≤ (flatN C).length := by omega
        have hset : (st.set id (.arr v 6 (flatN C))).set id (.arr v 6 (flatN (C.set (a2.length + 1) y))) = st.set id (.arr v 6 (flatN (C.set (a2.length + 1) y))) := by simp
        have q2 := arr_facts (hq (flatN (C.set (a2.length + 1) y)))
        have b2' : a2.length * 6 + 6 ≤ (flatN (C.set (a2.length + 1) y)).length := by rw [flatN_len,List.length_set]; omega
        refine awp_drawW [] [(0,[]),(0,[]),(0,[17]),(0,[17]),(0,[17]),(0,[]),(0,[]),(0,[]),(0,[]),(0,[]),(0,[]),(0,[]),(0,[]),(0,[]),(0,[]),(1,[17]),(0,[]),(1,[18])] Try.mixed rfl ?_
        simp -implicitDefEqProofs (maxSteps := 2000000) only [↓ops_nil,↓ops_none,↓ops_some,↓kd_eff,↓dr_nil,↓dr_cons,↓d1_none,↓d1_some,↓eff_store,↓eff_box,↓eff_alloc,↓eff_build,↓eff_buildSlice,↓eff_call,↓eff_append,↓eff_copy,↓eff_cap,↓eff_clear,↓eff_make,↓reduceIte,↓c_condI,↓c_seqH,↓c_blockH,↓then_nH,↓then_rH,↓then_eH,↓block_nH,↓block_rH,↓block_eH,go_sem,drawW_n,drawW_0,drawW_1,drawW_2,drawW_3,pend_n,pend_c,headD_c,isStore_s,c2,c4,c5,c6,c7,hwm,q.1,q.2.1,q.2.2.1,q.2.2.2,g0,g1,s1,b1,hset,q2.1,q2.2.1,q2.2.2.1,q2.2.2.2,s2,b2',Int.toNat_natCast]
        refine ⟨b2 - 1,[.arr id v n,i64 0,i64 n,.func (.func g) [] caps,.any,.any,.any,.any,i64 acc.length,i64 a2.length,.any,.any,.any,.any,.any,.any,.any,.any,.any,.any,.any,.any,.any,.any,.any,.any,.any,.any,.any,.any,.any,.any,.any,.any,.any,.any,.any,.any,.any,.any,.any,.any,.any,.any,.any,.any,.any,.any,.any,.any,.any,.any,.any],by omega,?_,P ++ [y],a2,by omega,?_,?_,?_,rfl⟩
        · repeat (first | exact leEnv_nil | refine leEnv_any _ ?_ | refine leEnv_same _ ?_ | refine leEnv_norm _ ?_)
        · rw [← hP,insR,if_pos hlt2,List.append_assoc]; rfl
        · rw [List.length_append]; rw [hlen] at hPl; simp only [List.length_cons,List.length_nil]; omega
        · have hsw : (C.set (a2.length + 1) y).set a2.length x = a2.reverse ++ x :: ((P ++ [y]).reverse ++ r) := by
            have := swap_mid a2.reverse (P.reverse ++ r) x y
            rw [hC2,hal] at this
            rw [this]; simp
          rw [hsw]
      · have hdec : ¬ cmpF (f x) (f y) < 0 := by have := cmpF_lt (f x) (f y); rw [decide_eq_false hlt2] at this; exact of_decide_eq_false this
        simp -implicitDefEqProofs (maxSteps := 2000000) only [↓ops_nil,↓ops_none,↓ops_some,↓kd_eff,↓dr_nil,↓dr_cons,↓d1_none,↓d1_some,↓eff_store,↓eff_box,↓eff_alloc,↓eff_build,↓eff_buildSlice,↓eff_call,↓eff_append,↓eff_copy,↓eff_cap,↓eff_clear,↓eff_make,↓reduceIte,↓c_condI,↓c_seqH,↓c_blockH,↓then_nH,↓then_rH,↓then_eH,↓block_nH,↓block_rH,↓block_eH,go_sem,c2]
        refine awp_drawH [] Try.mixed rfl fun R hR => ?_
        simp -implicitDefEqProofs (maxSteps := 2000000) only [↓ops_nil,↓ops_none,↓ops_some,↓kd_eff,↓dr_nil,↓dr_cons,↓d1_none,↓d1_some,↓eff_store,↓eff_box,↓eff_alloc,↓eff_build,↓eff_buildSlice,↓eff_call,↓eff_append,↓eff_copy,↓eff_cap,↓eff_clear,↓eff_make,↓reduceIte,↓c_condI,↓c_seqH,↓c_blockH,↓then_nH,↓then_rH,↓then_eH,↓block_nH,↓block_rH,↓block_eH,go_sem,c2,c4,c5,c6,c7,hwm,q.1,q.2.1,q.2.2.1,q.2.2.2,g0,g1,Int.toNat_natCast]
        rw [dg_eff]
        refine ⟨by simp -implicitDefEqProofs (maxSteps := 2000000) only [↓ops_nil,↓ops_none,↓ops_some,↓kd_eff,↓dr_nil,↓dr_cons,↓d1_none,↓d1_some,↓eff_store,↓eff_box,↓eff_alloc,↓eff_build,↓eff_buildSlice,↓eff_call,↓eff_append,↓eff_copy,↓eff_cap,↓eff_clear,↓eff_make,↓reduceIte,↓c_condI,↓c_seqH,↓c_blockH,↓then_nH,↓then_rH,↓then_eH,↓block_nH,↓block_rH,↓block_eH,go_sem,gAll],i64 (cmpF (f x) (f y)),fun _ => ?_,?_⟩
        · simp -implicitDefEqProofs (maxSteps := 2000000) only [↓ops_nil,↓ops_none,↓ops_some,↓kd_eff,↓dr_nil,↓dr_cons,↓d1_none,↓d1_some,↓eff_store,↓eff_box,↓eff_alloc,↓eff_build,↓eff_buildSlice,↓eff_call,↓eff_append,↓eff_copy,↓eff_cap,↓eff_clear,↓eff_make,↓reduceIte,↓c_condI,↓c_seqH,↓c_blockH,↓then_nH,↓then_rH,↓then_eH,↓block_nH,↓block_rH,↓block_eH,go_sem,hg]
          refine hpx _ ?_
          exact kept_sc
        simp -implicitDefEqProofs (maxSteps := 2000000) only [↓ops_nil,↓ops_none,↓ops_some,↓kd_eff,↓dr_nil,↓dr_cons,↓d1_none,↓d1_some,↓eff_store,↓eff_box,↓eff_alloc,↓eff_build,↓eff_buildSlice,↓eff_call,↓eff_append,↓eff_copy,↓eff_cap,↓eff_clear,↓eff_make,↓reduceIte,↓c_condI,↓c_seqH,↓c_blockH,↓then_nH,↓then_rH,↓then_eH,↓block_nH,↓block_rH,↓block_eH,go_sem,hdec]
        rw [hR]
        have hw := wrap1 (k := acc.length) (by omega)
        simp -implicitDefEqProofs (maxSteps := 2000000) only [↓ops_nil,↓ops_none,↓ops_some,↓kd_eff,↓dr_nil,↓dr_cons,↓d1_none,↓d1_some,↓eff_store,↓eff_box,↓eff_alloc,↓eff_build,↓eff_buildSlice,↓eff_call,↓eff_append,↓eff_copy,↓eff_cap,↓eff_clear,↓eff_make,↓reduceIte,↓c_condI,↓c_seqH,↓c_blockH,↓then_nH,↓then_rH,↓then_eH,↓block_nH,↓block_rH,↓block_eH,go_sem,hw]
        have hl2 : (P ++ x :: y :: a2).length = acc.length + 1 := by rw [List.length_append,List.length_cons]; omega
        refine ⟨b - 1,[.arr id v n,i64 0,i64 n,.func (.func g) [] caps,.any,.any,.any,.any,i64 (((P ++ x :: y :: a2).length : Nat) : Int),.any,.any,.any,.any,.any,.any,.any,.any,.any,.any,.any,.any,.any,.any,.any,.any,.any,.any,.any,.any,.any,.any,.any,.any,.any,.any,.any,.any,.any,.any,.any,.any,.any,.any,.any,.any,.any,.any,.any,.any,.any,.any,.any,.any],by omega,?_,P ++ x :: y :: a2,r,by omega,by omega,by simp,?_,?_,rfl⟩
        · rw [hl2]
          repeat (first | exact leEnv_nil | refine leEnv_any _ ?_ | refine leEnv_same _ ?_ | refine leEnv_norm _ ?_)
        · rw [← hins,insAll,← hP,insR,if_neg hlt2]
        · congr 3
          rw [← hC]; simp
theorem pdq71_c (id v n : Nat) (x0 : Nd) (L' : List Nd) (hn : L'.length + 1 = n) (hn2 : n ≤ 12) (lim : Int) (f : Nd → Int) (g : FuncId) (caps : List SV) (hg : aBody Try.prog g = true) (st : St) (hid : st[id]? = some (.arr v 6 (flatN (x0 :: L'))))
    (hp : ∀ (x y : Nd) (s : St),(∃ cs,s = st.set id (.arr v 6 cs)) → ∀ K : SV → St → Prop,K (i64 (cmpF (f x) (f y))) s → ACalls Try.prog g ([nodeSV x,nodeSV y] ++ caps) K s)
    (K : SV → St → Prop) (h : K (.tuple []) (st.set id (.arr v 6 (flatN (sortF f (x0 :: L')))))) : ACalls Try.prog 71 [.arr id v n,i64 0,i64 n,i64 lim,.func (.func g) [] caps] K st := by
  refine acalls_go (M := []) Try.func71 rfl Try.results71 Try.ntmps71 ?_
  have c1 : (n : Int) ≤ 12 := by omega
  have w1 : IntKind.i64.wrap ((n : Int) - 0) = (n : Int) := by rw [IntWalk.i64_in _ (by omega)]; omega
  simp -implicitDefEqProofs (maxSteps := 2000000) only [↓ops_nil,↓ops_none,↓ops_some,↓kd_eff,↓dr_nil,↓dr_cons,↓d1_none,↓d1_some,↓eff_store,↓eff_box,↓eff_alloc,↓eff_build,↓eff_buildSlice,↓eff_call,↓eff_append,↓eff_copy,↓eff_cap,↓eff_clear,↓eff_make,↓reduceIte,↓c_condI,↓c_seqH,↓c_blockH,↓then_nH,↓then_rH,↓then_eH,↓block_nH,↓block_rH,↓block_eH,go_sem]
  refine awp_rounds [] (fun b e s => s = st ∧ e = [.arr id v n,i64 0,i64 n,.any,.func (.func g) [] caps,.any,.any,.any,.any,.any,.any,.any,.any,.any,.any,.any,.any,.any,.any,.any,.any,.any,.any,.any,.any,.any,.any,.any,.any,.any,.any,.any,.any,.any,.any,.any,.any,.any,.any,.any,.any,.any,.any,.any,.any,.any,.any,.any,.any,.any,.any,.any,.any,.any,.any,.any,.any,.any,.any,.any,.any,.any,.any,.any,.any,.any,.any,.any,.any,.any,.any,.any,.any,.any,.any,.any,.any,.any,.any,.any,.any,.any,.any,.any,.any,.any,.any,.any,.any,.any,.any,.any,.any,.any,.any,.any,.any,.any,.any,.any,.any,.any,.any,.any,.any,.any,.any,.any,.any,.any,.any,.any,.any,.any,.any,.any,.any,.any,.any,.any,.any,.any,.any,.any,.any,.any,.any,.any,.any,.any,.any,.any,.any,.any,.any,.any,.any,.any,.any,.any,.any,.any,.any,.any,.any,.any,.any,.any]) (n := 0) ?_ ⟨rfl,rfl⟩ ?_
  · repeat (first | exact leEnv_nil | refine leEnv_any _ ?_ | refine leEnv_same _ ?_ | refine leEnv_norm _ ?_)
  rintro b e s ⟨rfl,rfl⟩
  simp -implicitDefEqProofs (maxSteps := 2000000) only [↓ops_nil,↓ops_none,↓ops_some,↓kd_eff,↓dr_nil,↓dr_cons,↓d1_none,↓d1_some,↓eff_store,↓eff_box,↓eff_alloc,↓eff_build,↓eff_buildSlice,↓eff_call,↓eff_append,↓eff_copy,↓eff_cap,↓eff_clear,↓eff_make,↓reduceIte,↓c_condI,↓c_seqH,↓c_blockH,↓then_nH,↓then_rH,↓then_eH,↓block_nH,↓block_rH,↓block_eH,go_sem,w1,c1]
  refine ins78_c id v n x0 L' hn (by omega) f g caps hg _ hid hp _ ?_
  simp -implicitDefEqProofs (maxSteps := 2000000) only [↓ops_nil,↓ops_none,↓ops_some,↓kd_eff,↓dr_nil,↓dr_cons,↓d1_none,↓d1_some,↓eff_store,↓eff_box,↓eff_alloc,↓eff_build,↓eff_buildSlice,↓eff_call,↓eff_append,↓eff_copy,↓eff_cap,↓eff_clear,↓eff_make,↓reduceIte,↓c_condI,↓c_seqH,↓c_blockH,↓then_nH,↓then_rH,↓then_eH,↓block_nH,↓block_rH,↓block_eH,go_sem]
  exact h
end Go.Proofs
