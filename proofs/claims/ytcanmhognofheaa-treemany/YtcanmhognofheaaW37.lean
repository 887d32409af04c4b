/- tree.heads. -/
import Derived.Test.YtcanmhognofheaaW36
set_option linter.all false
set_option maxHeartbeats 4000000
set_option linter.unusedSimpArgs false
set_option linter.unusedVariables false
set_option maxRecDepth 8000
namespace Go.Proofs
open Go Go.AL
theorem headsL_app (E : Eqs) : ∀ (a b : List Nd) (acc : List Nd),headsL E acc (a ++ b) = headsL E (headsL E acc a) b
  | [],_,_ => rfl
  | p :: r,b,acc => by rw [List.cons_append,headsL,headsL,headsL_app E r b]
theorem headsL_len (E : Eqs) : ∀ (a acc : List Nd),(headsL E acc a).length ≤ acc.length + a.length
  | [],acc => by simp [headsL]
  | p :: r,acc => by
    rw [headsL]
    refine Nat.le_trans (headsL_len E r _) ?_
    split
    · simp only [List.length_append,List.length_cons,List.length_nil]; omega
    · simp only [List.length_cons]; omega
theorem heads_step (E : Eqs) (rows : List Rw) (k : Nat) {j : Nat} (h : j < rows.length) : headsL E [] (colK (rows.take (j + 1)) k) =
    if !looseB (rows[j].cols.getD k default).pat && !((headsL E [] (colK (rows.take j) k)).any fun o => E.sm o (rows[j].cols.getD k default).pat) then headsL E [] (colK (rows.take j) k) ++ [(rows[j].cols.getD k default).pat] else headsL E [] (colK (rows.take j) k) := by
  unfold colK
  rw [List.take_succ_eq_append_getElem h,List.map_append,headsL_app]
  rfl
theorem flatN_snoc (O : List Nd) (p : Nd) : (flatN O).take (O.length * 6) ++ List.flatMap SV.cells [nodeSV p] = flatN (O ++ [p]) := by
  rw [flatN_append,List.take_of_length_le (by rw [flatN_len]; exact Nat.le_refl _)]
  rfl
theorem app24 {n : Nat} (h : n ≤ 1000000) : AppOk Try.prog 24 24 6 n := app22 h
structure ColOk (rows : List Rw) (k : Nat) : Prop where
  len : rows.length ≤ 100
  col : ∀ r ∈ rows,k < r.cols.length
  few : ∀ r ∈ rows,r.cols.length ≤ 100
theorem heads24_c (m : AL.Mode) (rows : List Rw) (k : Nat) (hk : ColOk rows k) (h12 : (headsL eqsS [] (colK rows k)).length ≤ 12) (bid : Nat) (bm : Int) (K : SV → St → Prop) (st : St) (hB : BAt st bid consL bm) (h : K (.slice .imm 6 ((headsK eqsS rows k).map nodeSV)) st) :
    ACalls Try.prog 24 [.ptr bid 0,.slice m 2 (rows.map rwSV),i64 k] K st := by
  refine acalls_frz ?_
  refine acalls_go (M := []) Try.func24 rfl Try.results24 Try.ntmps24 ?_
  have hbl := lt_of_get hB
  simp -implicitDefEqProofs (maxSteps := 2000000) only [↓ops_nil,↓ops_none,↓ops_some,↓kd_eff,↓dr_nil,↓dr_cons,↓d1_none,↓d1_some,↓eff_store,↓eff_box,↓eff_alloc,↓eff_build,↓eff_buildSlice,↓eff_call,↓eff_append,↓eff_copy,↓eff_cap,↓eff_clear,↓eff_make,↓reduceIte,↓c_condI,↓c_seqH,↓c_blockH,↓then_nH,↓then_rH,↓then_eH,↓block_nH,↓block_rH,↓block_eH,go_sem,List.length_map]
  refine awp_arr 7 6 0 rfl ?_
  refine awp_rounds [] (fun b e s => ∃ j v,j + b = rows.length ∧ s[st.length]? = some (.arr v 6 (flatN (headsL eqsS [] (colK (rows.take j) k)))) ∧ (∃ ex,s = st ++ ex) ∧ e = [.any,.any,i64 k,.ref [.ptr bid 0],.any,.any,.any,.arr st.length v (headsL eqsS [] (colK (rows.take j) k)).length,.any,.any,.any,.slice m 2 (rows.map rwSV),i64 rows.length,i64 j,.any,.any,.any,.any,.any,.any,.any,.any,.any,.any,.any,.any,.any,.any,.any,.any,.any,.any,.any,.any,.any,.any,.any,.any,.any,.any,.any,.any,.any,.any,.any,.any,.any,.any,.any,.any,.any]) (n := rows.length) ?_ ⟨0,0,by omega,by simp; rfl,⟨_,rfl⟩,rfl⟩ ?_
  · simp only [List.set_cons_succ,List.set_cons_zero]
    repeat (first | exact leEnv_nil | refine leEnv_any _ ?_ | refine leEnv_same _ ?_ | refine leEnv_norm _ ?_)
  rintro b e s ⟨j,v,hjb,hA,hex,rfl⟩
  by_cases hlt : j < rows.length
  · have c1 : (j : Int) < (rows.length : Int) := by omega
    have c3 : (0 : Int) ≤ (j : Int) := by omega
    have hw := wrap1 (k := j) (by have := hk.len; omega)
    have hgt := getm rwSV hlt
    have hmem : rows[j] ∈ rows := List.getElem_mem hlt
    have hcol := hk.col _ hmem
    have hfew := hk.few _ hmem
    have hstep := heads_step eqsS rows k hlt
    have hOl := headsL_len eqsS (colK (rows.take j) k) []
    have hcl : (colK (rows.take j) k).length ≤ 100 := by have := hk.len; unfold colK; rw [List.length_map,List.length_take]; omega
    obtain ⟨O,hO⟩ : ∃ O,headsL eqsS [] (colK (rows.take j) k) = O := ⟨_,rfl⟩
    rw [hO] at hstep hOl hA ⊢
    have hOl2 : O.length ≤ 100 := by simp only [List.length_nil] at hOl; omega
    obtain ⟨r,hr⟩ : ∃ r,rows[j] = r := ⟨_,rfl⟩
    rw [hr] at hgt hcol hfew hstep
    rw [getd hcol] at hstep
    have hgc := getm celSV hcol
    obtain ⟨c,hc⟩ : ∃ c,r.cols[k] = c := ⟨_,rfl⟩
    rw [hc] at hgc hstep
    have c2 : (k : Int) < (r.cols.length : Int) := by omega
    have c4 : (0 : Int) ≤ (k : Int) := by omega
    obtain ⟨S1,hS1⟩ : ∃ S1,s ++ [Ob.cells [.slice .imm 7 (r.cols.map celSV),i64 r.pl]] = S1 := ⟨_,rfl⟩
    have g9 : S1[s.length]? = some (.cells [.slice .imm 7 (r.cols.map celSV),i64 r.pl]) := by rw [← hS1]; simp
    have r9 := cells_facts g9
    obtain ⟨S2,hS2⟩ : ∃ S2,S1 ++ [Ob.cells (nodeSV c.pat).cells] = S2 := ⟨_,rfl⟩
    have hl1 : S1.length = s.length + 1 := by rw [← hS1]; simp
    have g10 : S2[s.length + 1]? = some (.cells (nodeSV c.pat).cells) := by rw [← hS2,← hl1]; simp
    have gA : S2[st.length]? = some (.arr v 6 (flatN O)) := by rw [← hS2,← hS1]; exact get_app (get_app hA _) _
    have r10 := cells_facts g10
    have rA := arr_facts gA
    obtain ⟨q,hq⟩ : ∃ q,looseB c.pat = q := ⟨_,rfl⟩
    rw [hq] at hstep
    cases q with
    | true =>
      simp only [Bool.not_true,Bool.false_and,Bool.false_eq_true,if_false] at hstep
      simp -implicitDefEqProofs (maxSteps := 2000000) only [↓ops_nil,↓ops_none,↓ops_some,↓kd_eff,↓dr_nil,↓dr_cons,↓d1_none,↓d1_some,↓eff_store,↓eff_box,↓eff_alloc,↓eff_build,↓eff_buildSlice,↓eff_call,↓eff_append,↓eff_copy,↓eff_cap,↓eff_clear,↓eff_make,↓reduceIte,↓c_condI,↓c_seqH,↓c_blockH,↓then_nH,↓then_rH,↓then_eH,↓block_nH,↓block_rH,↓block_eH,go_sem,c1,c2,c3,c4,hgt,hgc,rwSV,celSV,agg_nd,cell_nd,hS1,r9.1,r9.2.1,r9.2.2,List.length_map]
      refine loose23_c _ _ _ ?_
      rw [hq]
      simp -implicitDefEqProofs (maxSteps := 2000000) only [↓ops_nil,↓ops_none,↓ops_some,↓kd_eff,↓dr_nil,↓dr_cons,↓d1_none,↓d1_some,↓eff_store,↓eff_box,↓eff_alloc,↓eff_build,↓eff_buildSlice,↓eff_call,↓eff_append,↓eff_copy,↓eff_cap,↓eff_clear,↓eff_make,↓reduceIte,↓c_condI,↓c_seqH,↓c_blockH,↓then_nH,↓then_rH,↓then_eH,↓block_nH,↓block_rH,↓block_eH,go_sem,hS2,hw]
      refine ⟨b - 1,[.any,.any,i64 k,.ref [.ptr bid 0],.any,.any,.any,.arr st.length v O.length,.any,.any,.any,.slice m 2 (rows.map rwSV),i64 rows.length,i64 ((j + 1 : Nat) : Int),.any,.any,.any,.any,.any,.any,.any,.any,.any,.any,.any,.any,.any,.any,.any,.any,.any,.any,.any,.any,.any,.any,.any,.any,.any,.any,.any,.any,.any,.any,.any,.any,.any,.any,.any,.any,.any],by omega,?_,j + 1,v,by omega,by rw [hstep]; exact gA,(by rw [← hS2,← hS1]; exact ex_app2 (ex_app2 hex _) _),by rw [hstep]⟩
      · repeat (first | exact leEnv_nil | refine leEnv_any _ ?_ | refine leEnv_same _ ?_ | refine leEnv_norm _ ?_)
    | false =>
      have hstep : headsL eqsS [] (colK (rows.take (j + 1)) k) = if !(O.any fun o => sameB o c.pat) then O ++ [c.pat] else O := by rw [hstep]; rfl
      obtain ⟨a,ha⟩ : ∃ a,(O.any fun o => sameB o c.pat) = a := ⟨_,rfl⟩
      rw [ha] at hstep
      have hcont : ∀ K : SV → St → Prop,K (.sc (.bool a)) S2 → ACalls Try.prog 41 [.arr st.length v O.length,.func (.func 52) [] [.ptr (s.length + 1) 0]] K S2 := fun K hK =>
        contains41a_c st.length v O (fun o => sameB o c.pat) 52 [.ptr (s.length + 1) 0] Try.abody52 (by omega) S2 gA (fun x _ K h => heads1_c x c.pat _ K _ (by rw [r10.2.1]; trivial) r10.2.2 h) K (by rw [ha]; exact hK)
      simp -implicitDefEqProofs (maxSteps := 2000000) only [↓ops_nil,↓ops_none,↓ops_some,↓kd_eff,↓dr_nil,↓dr_cons,↓d1_none,↓d1_some,↓eff_store,↓eff_box,↓eff_alloc,↓eff_build,↓eff_buildSlice,↓eff_call,↓eff_append,↓eff_copy,↓eff_cap,↓eff_clear,↓eff_make,↓reduceIte,↓c_condI,↓c_seqH,↓c_blockH,↓then_nH,↓then_rH,↓then_eH,↓block_nH,↓block_rH,↓block_eH,go_sem,c1,c2,c3,c4,hgt,hgc,rwSV,celSV,agg_nd,cell_nd,hS1,r9.1,r9.2.1,r9.2.2,List.length_map]
      refine loose23_c _ _ _ ?_
      rw [hq]
      simp -implicitDefEqProofs (maxSteps := 2000000) only [↓ops_nil,↓ops_none,↓ops_some,↓kd_eff,↓dr_nil,↓dr_cons,↓d1_none,↓d1_some,↓eff_store,↓eff_box,↓eff_alloc,↓eff_build,↓eff_buildSlice,↓eff_call,↓eff_append,↓eff_copy,↓eff_cap,↓eff_clear,↓eff_make,↓reduceIte,↓c_condI,↓c_seqH,↓c_blockH,↓then_nH,↓then_rH,↓then_eH,↓block_nH,↓block_rH,↓block_eH,go_sem,hS2,hl1]
      refine hcont _ ?_
      cases a with
      | true =>
        simp only [Bool.not_true,Bool.false_eq_true,if_false] at hstep
        simp -implicitDefEqProofs (maxSteps := 2000000) only [↓ops_nil,↓ops_none,↓ops_some,↓kd_eff,↓dr_nil,↓dr_cons,↓d1_none,↓d1_some,↓eff_store,↓eff_box,↓eff_alloc,↓eff_build,↓eff_buildSlice,↓eff_call,↓eff_append,↓eff_copy,↓eff_cap,↓eff_clear,↓eff_make,↓reduceIte,↓c_condI,↓c_seqH,↓c_blockH,↓then_nH,↓then_rH,↓then_eH,↓block_nH,↓block_rH,↓block_eH,go_sem,hw]
        refine ⟨b - 1,[.any,.any,i64 k,.ref [.ptr bid 0],.any,.any,.any,.arr st.length v O.length,.any,.any,.any,.slice m 2 (rows.map rwSV),i64 rows.length,i64 ((j + 1 : Nat) : Int),.any,.any,.any,.any,.any,.any,.any,.any,.any,.any,.any,.any,.any,.any,.any,.any,.any,.any,.any,.any,.any,.any,.any,.any,.any,.any,.any,.any,.any,.any,.any,.any,.any,.any,.any,.any,.any],by omega,?_,j + 1,v,by omega,by rw [hstep]; exact gA,(by rw [← hS2,← hS1]; exact ex_app2 (ex_app2 hex _) _),by rw [hstep]⟩
        · repeat (first | exact leEnv_nil | refine leEnv_any _ ?_ | refine leEnv_same _ ?_ | refine leEnv_norm _ ?_)
      | false =>
        simp only [Bool.not_false,if_true] at hstep
        have hap := app24 (n := O.length + 1) (by omega)
        have hsn := flatN_snoc O c.pat
        simp -implicitDefEqProofs (maxSteps := 2000000) only [↓ops_nil,↓ops_none,↓ops_some,↓kd_eff,↓dr_nil,↓dr_cons,↓d1_none,↓d1_some,↓eff_store,↓eff_box,↓eff_alloc,↓eff_build,↓eff_buildSlice,↓eff_call,↓eff_append,↓eff_copy,↓eff_cap,↓eff_clear,↓eff_make,↓reduceIte,↓c_condI,↓c_seqH,↓c_blockH,↓then_nH,↓then_rH,↓then_eH,↓block_nH,↓block_rH,↓block_eH,go_sem,hw,r10.1,r10.2.1,r10.2.2,cell_nd,rA.1,rA.2.1,rA.2.2.1,rA.2.2.2,hsn]
        refine ⟨hap,b - 1,[.any,.any,i64 k,.ref [.ptr bid 0],.any,.any,.any,.arr st.length (v + 1) (O.length + 1),.any,.any,.any,.slice m 2 (rows.map rwSV),i64 rows.length,i64 ((j + 1 : Nat) : Int),.any,.any,.any,.any,.any,.any,.any,.any,.any,.any,.any,.any,.any,.any,.any,.any,.any,.any,.any,.any,.any,.any,.any,.any,.any,.any,.any,.any,.any,.any,.any,.any,.any,.any,.any,.any,.any],by omega,?_,j + 1,v + 1,by omega,by rw [hstep]; exact set_get (lt_of_get gA),(by rw [← hS2,← hS1]; exact ex_set (ex_app2 (ex_app2 hex _) _) (Nat.le_refl _) _),by rw [hstep,List.length_append]; rfl⟩
        repeat (first | exact leEnv_nil | refine leEnv_any _ ?_ | refine leEnv_same _ ?_ | refine leEnv_norm _ ?_)
  obtain rfl : j = rows.length := by omega
  have c1 : ((rows.length : Int) < (rows.length : Int)) = False := eq_false (by omega)
  rw [List.take_length] at hA ⊢
  obtain ⟨O,hO⟩ : ∃ O,headsL eqsS [] (colK rows k) = O := ⟨_,rfl⟩
  have hK : headsK eqsS rows k = if !O.isEmpty && (O.getD 0 default).kind == 5 then sortF (tagF eqsS) O else O := by unfold headsK; rw [hO]; rfl
  rw [hO] at h12 hA ⊢
  have hbne : bid ≠ st.length := by omega
  have fin : ∀ (L : List Nd) (v : Nat) (s' : St),L = headsK eqsS rows k → L.length = O.length → (∃ ex,s' = st ++ ex) → s'[st.length]? = some (.arr v 6 (flatN L)) →
      ∃ v2 n z cs xs ex,(.arr st.length v O.length : SV) = .arr st.length v2 n ∧ s' = st ++ (.arr v2 z cs :: ex) ∧ cs.take (n * z) = xs.flatMap SV.cells ∧ xs.length = n ∧ (∀ x ∈ xs,x.cells.length = z) ∧ Ids st.length (.slice .imm z xs) ∧ K (.slice .imm z xs) st := by
    rintro L v s' hL hLl ⟨ex,rfl⟩ hg
    rw [List.getElem?_append_right (Nat.le_refl _),Nat.sub_self] at hg
    cases ex with
    | nil => cases hg
    | cons o ex =>
      have ho : o = .arr v 6 (flatN L) := Option.some.inj hg
      subst ho
      refine ⟨v,O.length,6,flatN L,L.map nodeSV,ex,rfl,rfl,?_,by rw [List.length_map,hLl],fun x hx => ?_,ids_nodes _ L,by rw [hL]; exact h⟩
      · rw [← hLl,List.take_of_length_le (by rw [flatN_len]; exact Nat.le_refl _)]; rfl
      · obtain ⟨n,_,rfl⟩ := List.mem_map.1 hx
        exact node_len n
  have rA := arr_facts hA
  cases hc : O with
  | nil =>
    rw [hc] at hK fin hA rA
    have c2 : ¬ (0 : Int) < 0 := by decide
    have ez : ((0 : Nat) : Int) = 0 := rfl
    simp -implicitDefEqProofs (maxSteps := 2000000) only [↓ops_nil,↓ops_none,↓ops_some,↓kd_eff,↓dr_nil,↓dr_cons,↓d1_none,↓d1_some,↓eff_store,↓eff_box,↓eff_alloc,↓eff_build,↓eff_buildSlice,↓eff_call,↓eff_append,↓eff_copy,↓eff_cap,↓eff_clear,↓eff_make,↓reduceIte,↓c_condI,↓c_seqH,↓c_blockH,↓then_nH,↓then_rH,↓then_eH,↓block_nH,↓block_rH,↓block_eH,go_sem,c1,rA.1,rA.2.1,rA.2.2.1,rA.2.2.2,ez,c2]
    exact fin [] v s hK.symm rfl hex hA
  | cons x0 L' =>
    rw [hc] at hK fin hA rA h12
    have c2 : (0 : Int) < (((x0 :: L').length : Nat) : Int) := by rw [List.length_cons]; omega
    have ez : ((0 : Nat) : Int) = 0 := rfl
    have hcell : cellsOf Try.prog 3 (flatN (x0 :: L')) = some (i64 x0.kind) := by
      have e : flatN (x0 :: L') = (nodeSV x0).cells ++ flatN L' := rfl
      rw [e,cells_node]
      simp [cellsOf,Try.aagg3,Try.asize3]
    obtain ⟨n,hn⟩ : ∃ n,(x0 :: L').length = n := ⟨_,rfl⟩
    rw [hn] at c2 fin h12 ⊢
    cases h5 : (x0.kind == 5) with
    | false =>
      have hK2 : (x0 :: L') = headsK eqsS rows k := by rw [hK]; simp [h5]
      simp -implicitDefEqProofs (maxSteps := 2000000) only [↓ops_nil,↓ops_none,↓ops_some,↓kd_eff,↓dr_nil,↓dr_cons,↓d1_none,↓d1_some,↓eff_store,↓eff_box,↓eff_alloc,↓eff_build,↓eff_buildSlice,↓eff_call,↓eff_append,↓eff_copy,↓eff_cap,↓eff_clear,↓eff_make,↓reduceIte,↓c_condI,↓c_seqH,↓c_blockH,↓then_nH,↓then_rH,↓then_eH,↓block_nH,↓block_rH,↓block_eH,go_sem,c1,rA.1,rA.2.1,rA.2.2.1,rA.2.2.2,ez,c2,hcell,h5]
      exact fin (x0 :: L') v s hK2 hn hex hA
    | true =>
      have hK2 : sortF (tagF eqsS) (x0 :: L') = headsK eqsS rows k := by rw [hK]; simp [h5]
      simp -implicitDefEqProofs (maxSteps := 2000000) only [↓ops_nil,↓ops_none,↓ops_some,↓kd_eff,↓dr_nil,↓dr_cons,↓d1_none,↓d1_some,↓eff_store,↓eff_box,↓eff_alloc,↓eff_build,↓eff_buildSlice,↓eff_call,↓eff_append,↓eff_copy,↓eff_cap,↓eff_clear,↓eff_make,↓reduceIte,↓c_condI,↓c_seqH,↓c_blockH,↓then_nH,↓then_rH,↓then_eH,↓block_nH,↓block_rH,↓block_eH,go_sem,c1,rA.1,rA.2.1,rA.2.2.1,rA.2.2.2,ez,c2,hcell,h5]
      refine sort54_c st.length v n x0 L' (by rw [← hn]; rfl) h12 (tagF eqsS) 55 [.ref [.ptr bid 0]] Try.abody55 s hA ?_ _ ?_
      · rintro x y s2 ⟨cs,rfl⟩ K hK3
        obtain ⟨ex,rfl⟩ := hex
        refine heads2_c consL (by decide) x y bid bm K _ ?_ eqsS rfl hK3
        show ((st ++ ex).set st.length _)[bid]? = _
        rw [set_get_ne (by omega)]
        exact get_app hB _
      · simp -implicitDefEqProofs (maxSteps := 2000000) only [↓ops_nil,↓ops_none,↓ops_some,↓kd_eff,↓dr_nil,↓dr_cons,↓d1_none,↓d1_some,↓eff_store,↓eff_box,↓eff_alloc,↓eff_build,↓eff_buildSlice,↓eff_call,↓eff_append,↓eff_copy,↓eff_cap,↓eff_clear,↓eff_make,↓reduceIte,↓c_condI,↓c_seqH,↓c_blockH,↓then_nH,↓then_rH,↓then_eH,↓block_nH,↓block_rH,↓block_eH,go_sem]
        refine fin (sortF (tagF eqsS) (x0 :: L')) v _ hK2 ?_ (ex_set hex (Nat.le_refl _) _) (set_get (lt_of_get hA))
        rw [← hn]
        show (insAll _ [] _).length = _
        rw [insAll_len]; simp
end Go.Proofs
