/- The law: TreeMany. -/
import Derived.Test.YtcanmhognofheaaW48
import Derived.Test.YtcanmhognofheaaP4
import Derived.Test.YtcanmhognofheaaA9
import Derived.Test.YtcanmhognofheaaRows
import Derived.WalkKit
import Derived.ProofKit
import Derived.OpenShut
import Derived.Below
set_option linter.all false
set_option maxHeartbeats 8000000
set_option linter.unusedSimpArgs false
set_option linter.unusedVariables false
set_option maxRecDepth 8000
namespace Go.Proofs
open Go Go.AL
theorem law_of {n : Nat} (h : n < 21) : ∃ t m m',buildE eqsS 100 (startR (manyRows n)) 0 = some (t,m) ∧ buildR eqsS 100 (startR (manyRows n)) 0 = some (t,m') ∧ m ≤ 300 ∧ m' ≤ 300 ∧ fewT t = true := by
  have := all_lawT h
  unfold lawT at this
  cases h1 : buildE eqsS 100 (startR (manyRows n)) 0 with
  | none => rw [h1] at this; cases this
  | some p =>
    obtain ⟨a,m⟩ := p
    cases h2 : buildR eqsS 100 (startR (manyRows n)) 0 with
    | none => rw [h1,h2] at this; cases this
    | some q =>
      obtain ⟨b,m'⟩ := q
      rw [h1,h2] at this
      simp only [Bool.and_eq_true,decide_eq_true_eq] at this
      obtain ⟨⟨⟨k1,k2⟩,k3⟩,k4⟩ := this
      have := sameT_eq a b k3
      subst this
      exact ⟨a,m,m',rfl,rfl,k1,k2,k4⟩
def hN (i k : Nat) : Nd := if k == (i + i / 7 + 1) % 7 then conN sF [] else if k == i % 7 then conN sT [] else anyN
theorem oneRow_s (i k : Nat) (p : Nd) : oneRow i (k + 1) p = oneRow i k (conN sC [hN i k,p]) := rfl
def rowN (i : Nat) : Nd := oneRow i 7 (conN sN [])
theorem any_sl (p : Nd) : SVle (.slice .full 6 [.agg [i64 24,str ⟨#[]⟩,i64 0,i64 0,.slice .imm 0 [],.slice .imm 0 []],nodeSV p]) (nodesSV [anyN,p]) := by
  refine SVle.slice rfl (.cons ?_ (.cons (SVles.refl _) .nil))
  exact .cons (SVle.refl _) (.cons (SVle.refl _) (.cons (SVle.refl _) (.cons (SVle.refl _) (.cons (SVle.nil _ _ _ (.inr rfl)) (.cons (SVle.nil _ _ _ (.inr rfl)) .nil)))))
theorem node_d6 (n : Nd) : (nodeSV n).cells.drop 6 = [] := by rw [cells_node]; rfl
theorem tree3_c (n0 : Int) (hin : -9223372036854775808 ≤ n0 ∧ n0 ≤ 9223372036854775807) (K : SV → St → Prop) (st : St) (h : K (.sc (.bool true)) st) : ACalls Try.prog 3 [.sc (.int .i64 n0)] K st := by
  refine acalls_go_pure [] Try.func3 rfl Try.results3 Try.ntmps3 ?_
  have hx : ∀ x : Int,0 ≤ x → ∃ n : Nat,n < 21 ∧ x.tmod 21 = (n : Int) := by
    intro x hx
    refine ⟨(x.tmod 21).toNat,?_,?_⟩ <;> have := Int.tmod_nonneg 21 hx <;> have := Int.tmod_lt_of_pos x (show (0 : Int) < 21 by omega) <;> omega
  have d21 : ((21 : Int) = 0) = False := eq_false (by omega)
  have d7 : ((7 : Int) = 0) = False := eq_false (by omega)
  have hboth : ∃ n : Nat,n < 21 ∧ ((n0 < 0 ∧ (IntKind.i64.wrap (0 - IntKind.i64.wrap (n0 + 1))).tmod 21 = (n : Int)) ∨ (¬ n0 < 0 ∧ n0.tmod 21 = (n : Int))) := by
    by_cases hn : n0 < 0
    · rw [IntWalk.i64_in (n0 + 1) (by omega),IntWalk.i64_in _ (by omega)]
      obtain ⟨n,h1,h2⟩ := hx _ (show 0 ≤ 0 - (n0 + 1) by omega)
      exact ⟨n,h1,.inl ⟨hn,h2⟩⟩
    · obtain ⟨n,h1,h2⟩ := hx n0 (by omega)
      exact ⟨n,h1,.inr ⟨hn,h2⟩⟩
  obtain ⟨n,hn21,hcase⟩ := hboth
  obtain ⟨t,mt,mt',hbE,hbR,hmE,hmR,hfew⟩ := law_of hn21
  have hrB := rows_ok hn21
  have hrR := rows_okR hn21
  apply use_cut
  case h =>
    rcases hcase with ⟨hd,hv⟩ | ⟨hd,hv⟩
    · intro g
      simp -implicitDefEqProofs (maxSteps := 2000000) only [↓ops_nil,↓ops_none,↓ops_some,↓kd_eff,↓dr_nil,↓dr_cons,↓d1_none,↓d1_some,↓eff_store,↓eff_box,↓eff_alloc,↓eff_build,↓eff_buildSlice,↓eff_call,↓eff_append,↓eff_copy,↓eff_cap,↓eff_clear,↓eff_make,↓reduceIte,↓c_condI,↓c_seqH,↓c_blockH,↓then_nH,↓then_rH,↓then_eH,↓block_nH,↓block_rH,↓block_eH,go_sem,hd,hv,d21,not_false_eq_true,ne_eq]
      refine cons_c _ _ ?_
      simp -implicitDefEqProofs (maxSteps := 2000000) only [↓ops_nil,↓ops_none,↓ops_some,↓kd_eff,↓dr_nil,↓dr_cons,↓d1_none,↓d1_some,↓eff_store,↓eff_box,↓eff_alloc,↓eff_build,↓eff_buildSlice,↓eff_call,↓eff_append,↓eff_copy,↓eff_cap,↓eff_clear,↓eff_make,↓reduceIte,↓c_condI,↓c_seqH,↓c_blockH,↓then_nH,↓then_rH,↓then_eH,↓block_nH,↓block_rH,↓block_eH,go_sem]
      refine awp_own 4 6 0 rfl ?_
      refine awp_weaken (b := [i64 n,.any,.any,.slice .imm 5 (consL.map conSV),.slice (.own st.length 0) 6 [],i64 0,.any,.any,.any,.any,.any,.any,.any,.any,.any,.any,.any,.any,.any,.any,.any,.any,.any,.any,.any,.any,.any,.any,.any,.any,.any,.any,.any,.any,.any,.any,.any,.any,.any,.any,.any,.any,.any,.any,.any,.any,.any,.any,.any,.any,.any,.any,.any,.any,.any,.any,.any,.any,.any,.any,.any,.any,.any,.any,.any,.any,.any,.any,.any,.any,.any,.any,.any,.any,.any,.any,.any,.any,.any]) ?_ g
      simp only [List.set_cons_succ,List.set_cons_zero]
      repeat (first | exact leEnv_nil | refine leEnv_any _ ?_ | refine leEnv_same _ ?_ | refine leEnv_norm _ ?_)
    · intro g
      simp -implicitDefEqProofs (maxSteps := 2000000) only [↓ops_nil,↓ops_none,↓ops_some,↓kd_eff,↓dr_nil,↓dr_cons,↓d1_none,↓d1_some,↓eff_store,↓eff_box,↓eff_alloc,↓eff_build,↓eff_buildSlice,↓eff_call,↓eff_append,↓eff_copy,↓eff_cap,↓eff_clear,↓eff_make,↓reduceIte,↓c_condI,↓c_seqH,↓c_blockH,↓then_nH,↓then_rH,↓then_eH,↓block_nH,↓block_rH,↓block_eH,go_sem,hd,hv,d21,not_false_eq_true,ne_eq]
      refine cons_c _ _ ?_
      simp -implicitDefEqProofs (maxSteps := 2000000) only [↓ops_nil,↓ops_none,↓ops_some,↓kd_eff,↓dr_nil,↓dr_cons,↓d1_none,↓d1_some,↓eff_store,↓eff_box,↓eff_alloc,↓eff_build,↓eff_buildSlice,↓eff_call,↓eff_append,↓eff_copy,↓eff_cap,↓eff_clear,↓eff_make,↓reduceIte,↓c_condI,↓c_seqH,↓c_blockH,↓then_nH,↓then_rH,↓then_eH,↓block_nH,↓block_rH,↓block_eH,go_sem]
      refine awp_own 4 6 0 rfl ?_
      refine awp_weaken (b := [i64 n,.any,.any,.slice .imm 5 (consL.map conSV),.slice (.own st.length 0) 6 [],i64 0,.any,.any,.any,.any,.any,.any,.any,.any,.any,.any,.any,.any,.any,.any,.any,.any,.any,.any,.any,.any,.any,.any,.any,.any,.any,.any,.any,.any,.any,.any,.any,.any,.any,.any,.any,.any,.any,.any,.any,.any,.any,.any,.any,.any,.any,.any,.any,.any,.any,.any,.any,.any,.any,.any,.any,.any,.any,.any,.any,.any,.any,.any,.any,.any,.any,.any,.any,.any,.any,.any,.any,.any,.any]) ?_ g
      simp only [List.set_cons_succ,List.set_cons_zero]
      repeat (first | exact leEnv_nil | refine leEnv_any _ ?_ | refine leEnv_same _ ?_ | refine leEnv_norm _ ?_)
  case hz =>
    refine awp_rounds [] (fun b e s => ∃ i v,i + b = n ∧ s[st.length]? = some (.tok v) ∧ (∃ ex,s = st ++ ex) ∧ e = [i64 n,.any,.any,.slice .imm 5 (consL.map conSV),.slice (.own st.length v) 6 (((List.range i).map rowN).map nodeSV),i64 i,.any,.any,.any,.any,.any,.any,.any,.any,.any,.any,.any,.any,.any,.any,.any,.any,.any,.any,.any,.any,.any,.any,.any,.any,.any,.any,.any,.any,.any,.any,.any,.any,.any,.any,.any,.any,.any,.any,.any,.any,.any,.any,.any,.any,.any,.any,.any,.any,.any,.any,.any,.any,.any,.any,.any,.any,.any,.any,.any,.any,.any,.any,.any,.any,.any,.any,.any,.any,.any,.any,.any,.any,.any]) (n := n) ?_ ⟨0,0,by omega,by simp,⟨_,rfl⟩,rfl⟩ ?_
    · repeat (first | exact leEnv_nil | refine leEnv_any _ ?_ | refine leEnv_same _ ?_ | refine leEnv_norm _ ?_)
    rintro b e s ⟨i,v,hib,hT,hex,rfl⟩
    by_cases hlt : i < n
    · have c1 : (i : Int) < (n : Int) := by omega
      have hw := wrap1 (k := i) (by omega)
      have hl2 := lt_of_get hT
      simp -implicitDefEqProofs (maxSteps := 2000000) only [↓ops_nil,↓ops_none,↓ops_some,↓kd_eff,↓dr_nil,↓dr_cons,↓d1_none,↓d1_some,↓eff_store,↓eff_box,↓eff_alloc,↓eff_build,↓eff_buildSlice,↓eff_call,↓eff_append,↓eff_copy,↓eff_cap,↓eff_clear,↓eff_make,↓reduceIte,↓c_condI,↓c_seqH,↓c_blockH,↓then_nH,↓then_rH,↓then_eH,↓block_nH,↓block_rH,↓block_eH,go_sem,c1]
      refine con0_c sN _ _ ?_
      simp -implicitDefEqProofs (maxSteps := 2000000) only [↓ops_nil,↓ops_none,↓ops_some,↓kd_eff,↓dr_nil,↓dr_cons,↓d1_none,↓d1_some,↓eff_store,↓eff_box,↓eff_alloc,↓eff_build,↓eff_buildSlice,↓eff_call,↓eff_append,↓eff_copy,↓eff_cap,↓eff_clear,↓eff_make,↓reduceIte,↓c_condI,↓c_seqH,↓c_blockH,↓then_nH,↓then_rH,↓then_eH,↓block_nH,↓block_rH,↓block_eH,go_sem]
      refine awp_rounds [] (fun kk e s2 => ∃ p,oneRow i kk p = rowN i ∧ kk ≤ 7 ∧ s2[st.length]? = some (.tok v) ∧ s2[s.length]? = some (.cells (nodeSV p).cells) ∧ (∃ ex,s2 = st ++ ex) ∧ e = [i64 n,.any,.any,.slice .imm 5 (consL.map conSV),.slice (.own st.length v) 6 (((List.range i).map rowN).map nodeSV),i64 i,.ptr s.length 0,i64 ((kk : Int) - 1),.any,.any,.any,.any,.any,.any,.any,.any,.any,.any,.any,.any,.any,.any,.any,.any,.any,.any,.any,.any,.any,.any,.any,.any,.any,.any,.any,.any,.any,.any,.any,.any,.any,.any,.any,.any,.any,.any,.any,.any,.any,.any,.any,.any,.any,.any,.any,.any,.any,.any,.any,.any,.any,.any,.any,.any,.any,.any,.any,.any,.any,.any,.any,.any,.any,.any,.any,.any,.any,.any,.any]) (n := 7) ?_ ⟨conN sN [],rfl,Nat.le_refl _,get_app hT _,by simp,ex_app2 hex _,rfl⟩ ?_
      · repeat (first | exact leEnv_nil | refine leEnv_any _ ?_ | refine leEnv_same _ ?_ | refine leEnv_norm _ ?_)
      rintro kk e s2 ⟨p,hp,hk7,hT2,hP2,hex2,rfl⟩
      cases kk with
      | zero =>
        have hpr : p = rowN i := hp
        have c2 : ¬ (0 : Int) ≤ ((0 : Nat) : Int) - 1 := by omega
        have gP := cells_facts hP2
        have qt := tokAt_eq (v' := v) hT2
        have hap := app24 (n := i + 1) (by omega)
        simp -implicitDefEqProofs (maxSteps := 2000000) only [↓ops_nil,↓ops_none,↓ops_some,↓kd_eff,↓dr_nil,↓dr_cons,↓d1_none,↓d1_some,↓eff_store,↓eff_box,↓eff_alloc,↓eff_build,↓eff_buildSlice,↓eff_call,↓eff_append,↓eff_copy,↓eff_cap,↓eff_clear,↓eff_make,↓reduceIte,↓c_condI,↓c_seqH,↓c_blockH,↓then_nH,↓then_rH,↓then_eH,↓block_nH,↓block_rH,↓block_eH,go_sem,c2,gP.1,gP.2.1,gP.2.2,cell_nd,qt,hw,List.length_map,List.length_range]
        refine ⟨hap,b - 1,[i64 n,.any,.any,.slice .imm 5 (consL.map conSV),.slice (.own st.length (v + 1)) 6 (((List.range (i + 1)).map rowN).map nodeSV),i64 ((i + 1 : Nat) : Int),.any,.any,.any,.any,.any,.any,.any,.any,.any,.any,.any,.any,.any,.any,.any,.any,.any,.any,.any,.any,.any,.any,.any,.any,.any,.any,.any,.any,.any,.any,.any,.any,.any,.any,.any,.any,.any,.any,.any,.any,.any,.any,.any,.any,.any,.any,.any,.any,.any,.any,.any,.any,.any,.any,.any,.any,.any,.any,.any,.any,.any,.any,.any,.any,.any,.any,.any,.any,.any,.any,.any,.any,.any],by omega,?_,i + 1,v + 1,by omega,set_get (lt_of_get hT2),ex_set hex2 (Nat.le_refl _) _,rfl⟩
        rw [rangeU,List.map_append,hpr]
        simp only [List.map_cons,List.map_nil]
        repeat (first | exact leEnv_nil | refine leEnv_any _ ?_ | refine leEnv_same _ ?_ | refine leEnv_norm _ ?_)
      | succ k =>
        have ek : ((k + 1 : Nat) : Int) - 1 = (k : Int) := by omega
        rw [ek]
        have c2 : (0 : Int) ≤ (k : Int) := by omega
        have hwm : IntKind.i64.wrap ((k : Int) - 1) = (k : Int) - 1 := IntWalk.i64_in _ (by omega)
        rw [oneRow_s] at hp
        have r1 : (i : Int).tmod 7 = ((i % 7 : Nat) : Int) := by rw [Int.tmod_eq_emod_of_nonneg (by omega)]; omega
        have r2 : (i : Int).tdiv 7 = ((i / 7 : Nat) : Int) := by rw [Int.tdiv_eq_ediv_of_nonneg (by omega)]; omega
        have r3 : IntKind.i64.wrap ((i : Int) + ((i / 7 : Nat) : Int)) = ((i + i / 7 : Nat) : Int) := by rw [IntWalk.i64_in _ (by omega)]; omega
        have r4 : IntKind.i64.wrap (((i + i / 7 : Nat) : Int) + 1) = ((i + (i / 7 + 1) : Nat) : Int) := by rw [IntWalk.i64_in _ (by omega)]; omega
        have r5 : ((i + (i / 7 + 1) : Nat) : Int).tmod 7 = (((i + (i / 7 + 1)) % 7 : Nat) : Int) := by rw [Int.tmod_eq_emod_of_nonneg (by omega)]; omega
        have r6 : IntKind.i64.wrap ((i / 7 : Nat) : Int) = ((i / 7 : Nat) : Int) := IntWalk.i64_in _ (by omega)
        have gP := cells_facts hP2
        obtain ⟨b1,hb1⟩ : ∃ b1,((k : Int) == ((i % 7 : Nat) : Int)) = b1 := ⟨_,rfl⟩
        obtain ⟨b2,hb2⟩ : ∃ b2,((k : Int) == (((i + (i / 7 + 1)) % 7 : Nat) : Int)) = b2 := ⟨_,rfl⟩
        cases b1 with
        | false =>
          cases b2 with
          | false =>
            have hh : hN i k = anyN := by
              have q1 : (k == i % 7) = false := by rw [← hb1,Bool.eq_iff_iff]; simp; omega
              have q2 : (k == (i + i / 7 + 1) % 7) = false := by rw [← hb2,Bool.eq_iff_iff]; simp; omega
              unfold hN; rw [q1,q2]; rfl
            obtain ⟨S3,hS3⟩ : ∃ S3,s2 ++ [Ob.cells [i64 24,str ⟨#[]⟩,i64 0,i64 0,.slice .full 0 [],.slice .full 0 []]] = S3 := ⟨_,rfl⟩
            have hlS3 : s.length < S3.length := by rw [← hS3,List.length_append]; have := lt_of_get hP2; omega
            have hTS3 : S3[st.length]? = some (.tok v) := by rw [← hS3]; exact get_app hT2 _
            have hexS3 : ∃ ex,S3 = st ++ ex := by rw [← hS3]; exact ex_app2 hex2 _
            have g8 := cells_facts (show S3[s2.length]? = some (.cells [i64 24,str ⟨#[]⟩,i64 0,i64 0,.slice .full 0 [],.slice .full 0 []]) by rw [← hS3]; simp)
            have g6 := cells_facts (show S3[s.length]? = some (.cells (nodeSV p).cells) by rw [← hS3]; exact get_app hP2 _)
            simp -implicitDefEqProofs (maxSteps := 2000000) only [↓ops_nil,↓ops_none,↓ops_some,↓kd_eff,↓dr_nil,↓dr_cons,↓d1_none,↓d1_some,↓eff_store,↓eff_box,↓eff_alloc,↓eff_build,↓eff_buildSlice,↓eff_call,↓eff_append,↓eff_copy,↓eff_cap,↓eff_clear,↓eff_make,↓reduceIte,↓c_condI,↓c_seqH,↓c_blockH,↓then_nH,↓then_rH,↓then_eH,↓block_nH,↓block_rH,↓block_eH,go_sem,c2,d7,r1,r2,r3,r4,r5,r6,hb1,hb2,not_false_eq_true,ne_eq,hS3,g8.1,g8.2.1,g8.2.2,g6.1,g6.2.1,g6.2.2,cell_nd,node_d6,List.append_nil]
            refine acalls_args (.cons (SVle.refl _) (.cons (any_sl p) .nil)) (con_c sC [anyN,p] _ _ ?_)
            simp -implicitDefEqProofs (maxSteps := 2000000) only [↓ops_nil,↓ops_none,↓ops_some,↓kd_eff,↓dr_nil,↓dr_cons,↓d1_none,↓d1_some,↓eff_store,↓eff_box,↓eff_alloc,↓eff_build,↓eff_buildSlice,↓eff_call,↓eff_append,↓eff_copy,↓eff_cap,↓eff_clear,↓eff_make,↓reduceIte,↓c_condI,↓c_seqH,↓c_blockH,↓then_nH,↓then_rH,↓then_eH,↓block_nH,↓block_rH,↓block_eH,go_sem,hwm,g6.1,g6.2.1,g6.2.2,node_len,node_d6,List.append_nil]
            rw [hh] at hp
            refine ⟨k,[i64 n,.any,.any,.slice .imm 5 (consL.map conSV),.slice (.own st.length v) 6 (((List.range i).map rowN).map nodeSV),i64 i,.ptr s.length 0,i64 ((k : Int) - 1),.any,.any,.any,.any,.any,.any,.any,.any,.any,.any,.any,.any,.any,.any,.any,.any,.any,.any,.any,.any,.any,.any,.any,.any,.any,.any,.any,.any,.any,.any,.any,.any,.any,.any,.any,.any,.any,.any,.any,.any,.any,.any,.any,.any,.any,.any,.any,.any,.any,.any,.any,.any,.any,.any,.any,.any,.any,.any,.any,.any,.any,.any,.any,.any,.any,.any,.any,.any,.any,.any,.any],by omega,?_,_,hp,by omega,(set_get_ne (by omega)).trans hTS3,set_get hlS3,ex_set hexS3 (by omega) _,rfl⟩
            repeat (first | exact leEnv_nil | refine leEnv_any _ ?_ | refine leEnv_same _ ?_ | refine leEnv_norm _ ?_)
          | true =>
            have hh : hN i k = conN sF [] := by
              have q1 : (k == i % 7) = false := by rw [← hb1,Bool.eq_iff_iff]; simp; omega
              have q2 : (k == (i + i / 7 + 1) % 7) = true := by rw [← hb2,Bool.eq_iff_iff]; simp; omega
              unfold hN; rw [q1,q2]; rfl
            obtain ⟨S3,hS3⟩ : ∃ S3,s2 ++ [Ob.cells (nodeSV (conN sF [])).cells] = S3 := ⟨_,rfl⟩
            have hlS3 : s.length < S3.length := by rw [← hS3,List.length_append]; have := lt_of_get hP2; omega
            have hTS3 : S3[st.length]? = some (.tok v) := by rw [← hS3]; exact get_app hT2 _
            have hexS3 : ∃ ex,S3 = st ++ ex := by rw [← hS3]; exact ex_app2 hex2 _
            have g8 := cells_facts (show S3[s2.length]? = some (.cells (nodeSV (conN sF [])).cells) by rw [← hS3]; simp)
            have g6 := cells_facts (show S3[s.length]? = some (.cells (nodeSV p).cells) by rw [← hS3]; exact get_app hP2 _)
            simp -implicitDefEqProofs (maxSteps := 2000000) only [↓ops_nil,↓ops_none,↓ops_some,↓kd_eff,↓dr_nil,↓dr_cons,↓d1_none,↓d1_some,↓eff_store,↓eff_box,↓eff_alloc,↓eff_build,↓eff_buildSlice,↓eff_call,↓eff_append,↓eff_copy,↓eff_cap,↓eff_clear,↓eff_make,↓reduceIte,↓c_condI,↓c_seqH,↓c_blockH,↓then_nH,↓then_rH,↓then_eH,↓block_nH,↓block_rH,↓block_eH,go_sem,c2,d7,r1,r2,r3,r4,r5,r6,hb1,hb2,not_false_eq_true,ne_eq,node_d6,List.append_nil]
            refine con0_c sF _ _ ?_
            simp -implicitDefEqProofs (maxSteps := 2000000) only [↓ops_nil,↓ops_none,↓ops_some,↓kd_eff,↓dr_nil,↓dr_cons,↓d1_none,↓d1_some,↓eff_store,↓eff_box,↓eff_alloc,↓eff_build,↓eff_buildSlice,↓eff_call,↓eff_append,↓eff_copy,↓eff_cap,↓eff_clear,↓eff_make,↓reduceIte,↓c_condI,↓c_seqH,↓c_blockH,↓then_nH,↓then_rH,↓then_eH,↓block_nH,↓block_rH,↓block_eH,go_sem,c2,d7,r1,r2,r3,r4,r5,r6,hb1,hb2,not_false_eq_true,ne_eq,hS3,g8.1,g8.2.1,g8.2.2,g6.1,g6.2.1,g6.2.2,cell_nd,node_d6,List.append_nil]
            refine con2_c sC [conN sF [],p] _ _ ?_
            simp -implicitDefEqProofs (maxSteps := 2000000) only [↓ops_nil,↓ops_none,↓ops_some,↓kd_eff,↓dr_nil,↓dr_cons,↓d1_none,↓d1_some,↓eff_store,↓eff_box,↓eff_alloc,↓eff_build,↓eff_buildSlice,↓eff_call,↓eff_append,↓eff_copy,↓eff_cap,↓eff_clear,↓eff_make,↓reduceIte,↓c_condI,↓c_seqH,↓c_blockH,↓then_nH,↓then_rH,↓then_eH,↓block_nH,↓block_rH,↓block_eH,go_sem,hwm,g6.1,g6.2.1,g6.2.2,node_len,node_d6,List.append_nil]
            rw [hh] at hp
            refine ⟨k,[i64 n,.any,.any,.slice .imm 5 (consL.map conSV),.slice (.own st.length v) 6 (((List.range i).map rowN).map nodeSV),i64 i,.ptr s.length 0,i64 ((k : Int) - 1),.any,.any,.any,.any,.any,.any,.any,.any,.any,.any,.any,.any,.any,.any,.any,.any,.any,.any,.any,.any,.any,.any,.any,.any,.any,.any,.any,.any,.any,.any,.any,.any,.any,.any,.any,.any,.any,.any,.any,.any,.any,.any,.any,.any,.any,.any,.any,.any,.any,.any,.any,.any,.any,.any,.any,.any,.any,.any,.any,.any,.any,.any,.any,.any,.any,.any,.any,.any,.any,.any,.any],by omega,?_,_,hp,by omega,(set_get_ne (by omega)).trans hTS3,set_get hlS3,ex_set hexS3 (by omega) _,rfl⟩
            repeat (first | exact leEnv_nil | refine leEnv_any _ ?_ | refine leEnv_same _ ?_ | refine leEnv_norm _ ?_)
        | true =>
          cases b2 with
          | false =>
            have hh : hN i k = conN sT [] := by
              have q1 : (k == i % 7) = true := by rw [← hb1,Bool.eq_iff_iff]; simp; omega
              have q2 : (k == (i + i / 7 + 1) % 7) = false := by rw [← hb2,Bool.eq_iff_iff]; simp; omega
              unfold hN; rw [q1,q2]; rfl
            obtain ⟨S3,hS3⟩ : ∃ S3,s2 ++ [Ob.cells (nodeSV (conN sT [])).cells] = S3 := ⟨_,rfl⟩
            have hlS3 : s.length < S3.length := by rw [← hS3,List.length_append]; have := lt_of_get hP2; omega
            have hTS3 : S3[st.length]? = some (.tok v) := by rw [← hS3]; exact get_app hT2 _
            have hexS3 : ∃ ex,S3 = st ++ ex := by rw [← hS3]; exact ex_app2 hex2 _
            have g8 := cells_facts (show S3[s2.length]? = some (.cells (nodeSV (conN sT [])).cells) by rw [← hS3]; simp)
            have g6 := cells_facts (show S3[s.length]? = some (.cells (nodeSV p).cells) by rw [← hS3]; exact get_app hP2 _)
            simp -implicitDefEqProofs (maxSteps := 2000000) only [↓ops_nil,↓ops_none,↓ops_some,↓kd_eff,↓dr_nil,↓dr_cons,↓d1_none,↓d1_some,↓eff_store,↓eff_box,↓eff_alloc,↓eff_build,↓eff_buildSlice,↓eff_call,↓eff_append,↓eff_copy,↓eff_cap,↓eff_clear,↓eff_make,↓reduceIte,↓c_condI,↓c_seqH,↓c_blockH,↓then_nH,↓then_rH,↓then_eH,↓block_nH,↓block_rH,↓block_eH,go_sem,c2,d7,r1,r2,r3,r4,r5,r6,hb1,hb2,not_false_eq_true,ne_eq,node_d6,List.append_nil]
            refine con0_c sT _ _ ?_
            simp -implicitDefEqProofs (maxSteps := 2000000) only [↓ops_nil,↓ops_none,↓ops_some,↓kd_eff,↓dr_nil,↓dr_cons,↓d1_none,↓d1_some,↓eff_store,↓eff_box,↓eff_alloc,↓eff_build,↓eff_buildSlice,↓eff_call,↓eff_append,↓eff_copy,↓eff_cap,↓eff_clear,↓eff_make,↓reduceIte,↓c_condI,↓c_seqH,↓c_blockH,↓then_nH,↓then_rH,↓then_eH,↓block_nH,↓block_rH,↓block_eH,go_sem,c2,d7,r1,r2,r3,r4,r5,r6,hb1,hb2,not_false_eq_true,ne_eq,hS3,g8.1,g8.2.1,g8.2.2,g6.1,g6.2.1,g6.2.2,cell_nd,node_d6,List.append_nil]
            refine con2_c sC [conN sT [],p] _ _ ?_
            simp -implicitDefEqProofs (maxSteps := 2000000) only [↓ops_nil,↓ops_none,↓ops_some,↓kd_eff,↓dr_nil,↓dr_cons,↓d1_none,↓d1_some,↓eff_store,↓eff_box,↓eff_alloc,↓eff_build,↓eff_buildSlice,↓eff_call,↓eff_append,↓eff_copy,↓eff_cap,↓eff_clear,↓eff_make,↓reduceIte,↓c_condI,↓c_seqH,↓c_blockH,↓then_nH,↓then_rH,↓then_eH,↓block_nH,↓block_rH,↓block_eH,go_sem,hwm,g6.1,g6.2.1,g6.2.2,node_len,node_d6,List.append_nil]
            rw [hh] at hp
            refine ⟨k,[i64 n,.any,.any,.slice .imm 5 (consL.map conSV),.slice (.own st.length v) 6 (((List.range i).map rowN).map nodeSV),i64 i,.ptr s.length 0,i64 ((k : Int) - 1),.any,.any,.any,.any,.any,.any,.any,.any,.any,.any,.any,.any,.any,.any,.any,.any,.any,.any,.any,.any,.any,.any,.any,.any,.any,.any,.any,.any,.any,.any,.any,.any,.any,.any,.any,.any,.any,.any,.any,.any,.any,.any,.any,.any,.any,.any,.any,.any,.any,.any,.any,.any,.any,.any,.any,.any,.any,.any,.any,.any,.any,.any,.any,.any,.any,.any,.any,.any,.any,.any,.any],by omega,?_,_,hp,by omega,(set_get_ne (by omega)).trans hTS3,set_get hlS3,ex_set hexS3 (by omega) _,rfl⟩
            repeat (first | exact leEnv_nil | refine leEnv_any _ ?_ | refine leEnv_same _ ?_ | refine leEnv_norm _ ?_)
          | true =>
            have hh : hN i k = conN sF [] := by
              have q1 : (k == i % 7) = true := by rw [← hb1,Bool.eq_iff_iff]; simp; omega
              have q2 : (k == (i + i / 7 + 1) % 7) = true := by rw [← hb2,Bool.eq_iff_iff]; simp; omega
              unfold hN; rw [q1,q2]; rfl
            obtain ⟨S3,hS3⟩ : ∃ S3,s2 ++ [Ob.cells (nodeSV (conN sF [])).cells] = S3 := ⟨_,rfl⟩
            have hlS3 : s.length < S3.length := by rw [← hS3,List.length_append]; have := lt_of_get hP2; omega
            have hTS3 : S3[st.length]? = some (.tok v) := by rw [← hS3]; exact get_app hT2 _
            have hexS3 : ∃ ex,S3 = st ++ ex := by rw [← hS3]; exact ex_app2 hex2 _
            have g8 := cells_facts (show S3[s2.length]? = some (.cells (nodeSV (conN sF [])).cells) by rw [← hS3]; simp)
            have g6 := cells_facts (show S3[s.length]? = some (.cells (nodeSV p).cells) by rw [← hS3]; exact get_app hP2 _)
            simp -implicitDefEqProofs (maxSteps := 2000000) only [↓ops_nil,↓ops_none,↓ops_some,↓kd_eff,↓dr_nil,↓dr_cons,↓d1_none,↓d1_some,↓eff_store,↓eff_box,↓eff_alloc,↓eff_build,↓eff_buildSlice,↓eff_call,↓eff_append,↓eff_copy,↓eff_cap,↓eff_clear,↓eff_make,↓reduceIte,↓c_condI,↓c_seqH,↓c_blockH,↓then_nH,↓then_rH,↓then_eH,↓block_nH,↓block_rH,↓block_eH,go_sem,c2,d7,r1,r2,r3,r4,r5,r6,hb1,hb2,not_false_eq_true,ne_eq,node_d6,List.append_nil]
            refine con0_c sT _ _ ?_
            simp -implicitDefEqProofs (maxSteps := 2000000) only [↓ops_nil,↓ops_none,↓ops_some,↓kd_eff,↓dr_nil,↓dr_cons,↓d1_none,↓d1_some,↓eff_store,↓eff_box,↓eff_alloc,↓eff_build,↓eff_buildSlice,↓eff_call,↓eff_append,↓eff_copy,↓eff_cap,↓eff_clear,↓eff_make,↓reduceIte,↓c_condI,↓c_seqH,↓c_blockH,↓then_nH,↓then_rH,↓then_eH,↓block_nH,↓block_rH,↓block_eH,go_sem,c2,d7,r1,r2,r3,r4,r5,r6,hb1,hb2,not_false_eq_true,ne_eq,node_d6,List.append_nil]
            refine con0_c sF _ _ ?_
            simp -implicitDefEqProofs (maxSteps := 2000000) only [↓ops_nil,↓ops_none,↓ops_some,↓kd_eff,↓dr_nil,↓dr_cons,↓d1_none,↓d1_some,↓eff_store,↓eff_box,↓eff_alloc,↓eff_build,↓eff_buildSlice,↓eff_call,↓eff_append,↓eff_copy,↓eff_cap,↓eff_clear,↓eff_make,↓reduceIte,↓c_condI,↓c_seqH,↓c_blockH,↓then_nH,↓then_rH,↓then_eH,↓block_nH,↓block_rH,↓block_eH,go_sem,c2,d7,r1,r2,r3,r4,r5,r6,hb1,hb2,not_false_eq_true,ne_eq,hS3,g8.1,g8.2.1,g8.2.2,g6.1,g6.2.1,g6.2.2,cell_nd,node_d6,List.append_nil]
            refine con2_c sC [conN sF [],p] _ _ ?_
            simp -implicitDefEqProofs (maxSteps := 2000000) only [↓ops_nil,↓ops_none,↓ops_some,↓kd_eff,↓dr_nil,↓dr_cons,↓d1_none,↓d1_some,↓eff_store,↓eff_box,↓eff_alloc,↓eff_build,↓eff_buildSlice,↓eff_call,↓eff_append,↓eff_copy,↓eff_cap,↓eff_clear,↓eff_make,↓reduceIte,↓c_condI,↓c_seqH,↓c_blockH,↓then_nH,↓then_rH,↓then_eH,↓block_nH,↓block_rH,↓block_eH,go_sem,hwm,g6.1,g6.2.1,g6.2.2,node_len,node_d6,List.append_nil]
            rw [hh] at hp
            refine ⟨k,[i64 n,.any,.any,.slice .imm 5 (consL.map conSV),.slice (.own st.length v) 6 (((List.range i).map rowN).map nodeSV),i64 i,.ptr s.length 0,i64 ((k : Int) - 1),.any,.any,.any,.any,.any,.any,.any,.any,.any,.any,.any,.any,.any,.any,.any,.any,.any,.any,.any,.any,.any,.any,.any,.any,.any,.any,.any,.any,.any,.any,.any,.any,.any,.any,.any,.any,.any,.any,.any,.any,.any,.any,.any,.any,.any,.any,.any,.any,.any,.any,.any,.any,.any,.any,.any,.any,.any,.any,.any,.any,.any,.any,.any,.any,.any,.any,.any,.any,.any,.any,.any],by omega,?_,_,hp,by omega,(set_get_ne (by omega)).trans hTS3,set_get hlS3,ex_set hexS3 (by omega) _,rfl⟩
            repeat (first | exact leEnv_nil | refine leEnv_any _ ?_ | refine leEnv_same _ ?_ | refine leEnv_norm _ ?_)
    · obtain rfl : i = n := by omega
      have c1 : ((i : Int) < (i : Int)) = False := eq_false (by omega)
      have hbl6 : ∀ (K : SV → St → Prop) (s : St),K (.tuple [trSV t,i64 0]) s → ACalls Try.prog 6 [.slice (.own st.length v) 6 (((List.range i).map rowN).map nodeSV),.slice .imm 5 (consL.map conSV)] K s := fun K s hK =>
        acalls_args (.cons (le_imm _ _ _) (.cons (SVle.refl _) .nil)) (build6_c (manyRows i) hrB t mt hbE hmE K s hK)
      have hbl7 : ∀ (K : SV → St → Prop) (s : St),K (.tuple [trSV t,i64 0]) s → ACalls Try.prog 7 [.slice (.own st.length v) 6 (((List.range i).map rowN).map nodeSV),.slice .imm 5 (consL.map conSV)] K s := fun K s hK =>
        acalls_args (.cons (le_imm _ _ _) (.cons (SVle.refl _) .nil)) (build7_c (manyRows i) hrR t mt' hbR hmR K s hK)
      have hsame := sames (SizeOf.sizeOf t + 1) t (Nat.lt_succ_self _) hfew
      obtain ⟨r',p',cs',q',rfl,ht'⟩ := trC_eq t
      unfold trSV at hbl6 hbl7 hsame
      rw [ht'] at hbl6 hbl7 hsame
      have k0 : ((0 : Int) == 0) = true := rfl
      simp -implicitDefEqProofs (maxSteps := 2000000) only [↓ops_nil,↓ops_none,↓ops_some,↓kd_eff,↓dr_nil,↓dr_cons,↓d1_none,↓d1_some,↓eff_store,↓eff_box,↓eff_alloc,↓eff_build,↓eff_buildSlice,↓eff_call,↓eff_append,↓eff_copy,↓eff_cap,↓eff_clear,↓eff_make,↓reduceIte,↓c_condI,↓c_seqH,↓c_blockH,↓then_nH,↓then_rH,↓then_eH,↓block_nH,↓block_rH,↓block_eH,go_sem,c1]
      refine hbl6 _ _ ?_
      simp -implicitDefEqProofs (maxSteps := 2000000) only [↓ops_nil,↓ops_none,↓ops_some,↓kd_eff,↓dr_nil,↓dr_cons,↓d1_none,↓d1_some,↓eff_store,↓eff_box,↓eff_alloc,↓eff_build,↓eff_buildSlice,↓eff_call,↓eff_append,↓eff_copy,↓eff_cap,↓eff_clear,↓eff_make,↓reduceIte,↓c_condI,↓c_seqH,↓c_blockH,↓then_nH,↓then_rH,↓then_eH,↓block_nH,↓block_rH,↓block_eH,go_sem]
      refine hbl7 _ _ ?_
      simp -implicitDefEqProofs (maxSteps := 2000000) only [↓ops_nil,↓ops_none,↓ops_some,↓kd_eff,↓dr_nil,↓dr_cons,↓d1_none,↓d1_some,↓eff_store,↓eff_box,↓eff_alloc,↓eff_build,↓eff_buildSlice,↓eff_call,↓eff_append,↓eff_copy,↓eff_cap,↓eff_clear,↓eff_make,↓reduceIte,↓c_condI,↓c_seqH,↓c_blockH,↓then_nH,↓then_rH,↓then_eH,↓block_nH,↓block_rH,↓block_eH,go_sem]
      refine hsame _ _ ?_
      simp -implicitDefEqProofs (maxSteps := 2000000) only [↓ops_nil,↓ops_none,↓ops_some,↓kd_eff,↓dr_nil,↓dr_cons,↓d1_none,↓d1_some,↓eff_store,↓eff_box,↓eff_alloc,↓eff_build,↓eff_buildSlice,↓eff_call,↓eff_append,↓eff_copy,↓eff_cap,↓eff_clear,↓eff_make,↓reduceIte,↓c_condI,↓c_seqH,↓c_blockH,↓then_nH,↓then_rH,↓then_eH,↓block_nH,↓block_rH,↓block_eH,go_sem,k0]
      refine lives9_c _ _ ?_
      simp -implicitDefEqProofs (maxSteps := 2000000) only [↓ops_nil,↓ops_none,↓ops_some,↓kd_eff,↓dr_nil,↓dr_cons,↓d1_none,↓d1_some,↓eff_store,↓eff_box,↓eff_alloc,↓eff_build,↓eff_buildSlice,↓eff_call,↓eff_append,↓eff_copy,↓eff_cap,↓eff_clear,↓eff_make,↓reduceIte,↓c_condI,↓c_seqH,↓c_blockH,↓then_nH,↓then_rH,↓then_eH,↓block_nH,↓block_rH,↓block_eH,go_sem]
      exact fin_scS (ex_app2 hex _) h
end Go.Proofs
namespace Go.Proofs.Ytcanmhognofheaa.treeMany
open Go.ChangeShapes Go.WideShapes Go.ChangeAt Go.RowKit Go.AL Go.RowKit
theorem own : ownKnob Try.prog.godebug = none := by kernel_rfl
theorem walk (a0 : Int) (w0 : (Lit.int .i64 a0).wf = true) (w : World) :
    Calls Try.prog 3 #[.int .i64 a0] w fun e w' => e = .returned (.bool true) ∧ Below w.heap.size w w' := by
  refine calls_top (args := [.sc (.int .i64 a0)]) (tree3_c a0 ?_ _ _ rfl) ⟨rfl,fun i hi => ?_⟩
  · simp only [Lit.wf,Bool.and_eq_true,decide_eq_true_eq] at w0
    have h1 : IntKind.i64.min = -9223372036854775808 := by decide
    have h2 : IntKind.i64.max = 9223372036854775807 := by decide
    omega
  · match i,hi with
    | 0,_ => exact .sc _
set_option maxRecDepth 100000 in
theorem lifted (os : Os) (started : os.Started) (H : Type) (enc : TypeId × Value → H) :
    ReturnsInHanded {} Try.checked os 3 .any (Rows.treeManySpec.pre6 enc Try.prog Try.f3 Rows.treeManyRow.domain false) (Rows.treeManySpec.post enc Try.prog Try.f3 false true false false) := by
  refine returnsInHanded_of_change (C := Try.checked) own started (by kernel_rfl) Try.func3
    (ChangeSpec.witness6 (enc := enc) (C := Try.checked) false ⟨#[],#[.int .i64 0],[]⟩ 8 (by kernel_rfl) (by kernel_rfl) (by kernel_rfl) (by kernel_rfl)) ?_
  intro W base args ds gs before hval0 hW hcnd _
  have hval : ∀ (j : Nat) t v,Try.f3.params[j]? = some t → args[j]? = some v → Value.okWide Try.prog W .any base t v := hval0
  have hW' := hW
  obtain ⟨p,q,hA0,hV,rfl,hfz,hnd⟩ := hW
  have hA : DataW.TrodAll enc Try.prog W 0 (fun _ => true) true Try.f3.params.toList args.toList ds p := hA0
  rw [Try.params3] at hA hval
  obtain ⟨v0,vs0,d0,ds0,p0,q0,hargs,rfl,rfl,h0,r0⟩ := trodAll_cons hA
  obtain ⟨rfl,rfl,rfl⟩ := trodAll_nil r0
  obtain rfl : args = #[v0] := by cases args; simp_all
  obtain ⟨rfl,rfl⟩ := trodVars_none hV
  obtain ⟨a0,rfl,rfl,rfl,w0⟩ := open_int Try.underlying3 (hval 0 3 v0 rfl rfl) h0
  clear hA0 hval0
  simp only [List.append_nil] at hW'
  refine (walk a0 w0 W).mono fun e W' ⟨he,hg⟩ => ?_
  subst he
  exact ⟨_,rfl,post_below (pa := []) (pv := []) hW' (fun _ _ _ => (trodAll_cons_mk (shut_bool Try.underlying4 _) trodAll_mk0)) (fun sp _ => (trodAll_cons_mk (shut_int Try.underlying3 w0) trodAll_mk0)) (fun _ _ => rfl) rfl
    hg (ok_one (by kernel_rfl) rfl (okWide_bool_mk Try.underlying4 _))⟩
theorem over : Rows.treeManyRow.holds Try.pinned (OpenSpec.ofChange Rows.treeManySpec) :=
  OpenClaim.holds_of_wide 3 Try.f3 rfl rfl rfl rfl rfl rfl rfl ⟨rfl,rfl,rfl,rfl,rfl⟩ rfl rfl rfl rfl rfl (by kernel_rfl) Try.func3 (by kernel_rfl)
    (of_decide_eq_true (by kernel_rfl)) (by unfold Func.isWrapper; first | (rw [if_pos (by decide +kernel)]; kernel_rfl) | (rw [if_neg (by decide +kernel)]; exact ⟨rfl,rfl⟩))
    (fun os started H enc _ => lifted os started H enc)
theorem proved : Rows.TreeManySaid :=
  over
#print axioms proved
end Go.Proofs.Ytcanmhognofheaa.treeMany
