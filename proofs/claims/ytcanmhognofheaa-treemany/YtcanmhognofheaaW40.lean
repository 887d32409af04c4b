/- selvageref09.Find, selvageref10.left. -/
import Derived.Test.YtcanmhognofheaaW33
set_option linter.all false
set_option maxHeartbeats 8000000
set_option linter.unusedSimpArgs false
set_option linter.unusedVariables false
set_option maxRecDepth 8000
namespace Go.Proofs
open Go Go.AL
theorem find33_c (m : AL.Mode) (cons : List Cn) (name : ByteArray) (hb : cons.length ≤ 1000000) (K : SV → St → Prop) (st : St) (h : K (i64 (idxA (fun c : Cn => c.name.toList == name.toList) cons)) st) : ACalls Try.prog 33 [.slice m 5 (cons.map conSV),str name] K st := by
  refine acalls_go_pure [] Try.func33 rfl Try.results33 Try.ntmps33 ?_
  simp -implicitDefEqProofs (maxSteps := 2000000) only [↓ops_nil,↓ops_none,↓ops_some,↓kd_eff,↓dr_nil,↓dr_cons,↓d1_none,↓d1_some,↓eff_store,↓eff_box,↓eff_alloc,↓eff_build,↓eff_buildSlice,↓eff_call,↓eff_append,↓eff_copy,↓eff_cap,↓eff_clear,↓eff_make,↓reduceIte,↓c_condI,↓c_seqH,↓c_blockH,↓then_nH,↓then_rH,↓then_eH,↓block_nH,↓block_rH,↓block_eH,go_sem,List.length_map]
  refine awp_rounds [] (fun b e s => ∃ k,k + b = cons.length ∧ (∀ j,j < k → ∀ x,cons[j]? = some x → (x.name.toList == name.toList) = false) ∧ e = [.slice m 5 (cons.map conSV),str name,.any,.any,.any,i64 k,.any,.any,.any,.any,.any,.any,.any,.any,.any,.any,.any,.any,.any,.any] ∧ s = st) (n := cons.length) ?_ ⟨0,by omega,fun j hj => absurd hj (Nat.not_lt_zero _),rfl,rfl⟩ ?_
  · repeat (first | exact leEnv_nil | refine leEnv_any _ ?_ | refine leEnv_same _ ?_ | refine leEnv_norm _ ?_)
  rintro b e s ⟨k,hk,hno,rfl,rfl⟩
  by_cases hlt : k < cons.length
  · have c1 : (k : Int) < (cons.length : Int) := by omega
    have c3 : (0 : Int) ≤ (k : Int) := by omega
    have hw := wrap1 (k := k) (by omega)
    have hgt := getm conSV hlt
    rcases (Bool.eq_false_or_eq_true (cons[k].name.toList == name.toList)).symm with hL | hL
    · simp -implicitDefEqProofs (maxSteps := 2000000) only [↓ops_nil,↓ops_none,↓ops_some,↓kd_eff,↓dr_nil,↓dr_cons,↓d1_none,↓d1_some,↓eff_store,↓eff_box,↓eff_alloc,↓eff_build,↓eff_buildSlice,↓eff_call,↓eff_append,↓eff_copy,↓eff_cap,↓eff_clear,↓eff_make,↓reduceIte,↓c_condI,↓c_seqH,↓c_blockH,↓then_nH,↓then_rH,↓then_eH,↓block_nH,↓block_rH,↓block_eH,go_sem,c1,c3,hw,hgt,hL,List.length_map]
      refine ⟨b - 1,[.slice m 5 (cons.map conSV),str name,.any,.any,.any,i64 ((k + 1 : Nat) : Int),.any,.any,.any,.any,.any,.any,.any,.any,.any,.any,.any,.any,.any,.any],by omega,?_,k + 1,by omega,fun j hj x hx => ?_,rfl⟩
      · repeat (first | exact leEnv_nil | refine leEnv_any _ ?_ | refine leEnv_same _ ?_ | refine leEnv_norm _ ?_)
      · by_cases e : j = k
        · subst e
          rw [List.getElem?_eq_getElem hlt] at hx
          cases hx
          exact hL
        · exact hno j (by omega) x hx
    · simp -implicitDefEqProofs (maxSteps := 2000000) only [↓ops_nil,↓ops_none,↓ops_some,↓kd_eff,↓dr_nil,↓dr_cons,↓d1_none,↓d1_some,↓eff_store,↓eff_box,↓eff_alloc,↓eff_build,↓eff_buildSlice,↓eff_call,↓eff_append,↓eff_copy,↓eff_cap,↓eff_clear,↓eff_make,↓reduceIte,↓c_condI,↓c_seqH,↓c_blockH,↓then_nH,↓then_rH,↓then_eH,↓block_nH,↓block_rH,↓block_eH,go_sem,c1,c3,hw,hgt,hL,List.length_map]
      have e : idxA (fun c : Cn => c.name.toList == name.toList) cons = (k : Int) := idxA_some hlt hno hL
      rw [e] at h
      exact fin_sc h
  · obtain rfl : k = cons.length := by omega
    have c1 : ((cons.length : Int) < (cons.length : Int)) = False := eq_false (by omega)
    have e : idxA (fun c : Cn => c.name.toList == name.toList) cons = -1 := idxA_none hno
    rw [e] at h
    simp -implicitDefEqProofs (maxSteps := 2000000) only [↓ops_nil,↓ops_none,↓ops_some,↓kd_eff,↓dr_nil,↓dr_cons,↓d1_none,↓d1_some,↓eff_store,↓eff_box,↓eff_alloc,↓eff_build,↓eff_buildSlice,↓eff_call,↓eff_append,↓eff_copy,↓eff_cap,↓eff_clear,↓eff_make,↓reduceIte,↓c_condI,↓c_seqH,↓c_blockH,↓then_nH,↓then_rH,↓then_eH,↓block_nH,↓block_rH,↓block_eH,go_sem,c1,List.length_map]
    exact fin_sc h
def anyC (c : Cel) (k : Nat) : SV := .agg [i64 24,str ⟨#[]⟩,i64 0,i64 0,.slice .imm 0 [],.slice .imm 0 [],.slice .imm 1 (c.path.map i64 ++ [i64 k])]
def intoRaw (c : Cel) (head : Nd) (j : Nat) : SV := if looseB c.pat then anyC c j else celSV (intoU c head j)
theorem intoRaw_le (c : Cel) (head : Nd) (j : Nat) : SVles (intoRaw c head j).cells (celSV (intoU c head j)).cells := by
  unfold intoRaw
  cases hl : looseB c.pat with
  | false => exact SVles.refl _
  | true =>
    have hp := patU_true (head := head) (k := j) hl
    have hpa : (intoU c head j).path = c.path ++ [(j : Int)] := rfl
    show SVles [i64 24,str ⟨#[]⟩,i64 0,i64 0,.slice .imm 0 [],.slice .imm 0 [],.slice .imm 1 (c.path.map i64 ++ [i64 j])] (celSV (intoU c head j)).cells
    rw [cells_cel,hp,hpa,List.map_append]
    exact .cons (SVle.refl _) (.cons (SVle.refl _) (.cons (SVle.refl _) (.cons (SVle.refl _) (.cons (SVle.nil _ _ _ (.inr rfl)) (.cons (SVle.nil _ _ _ (.inr rfl)) (.cons (SVle.refl _) .nil))))))
def midRaw (c : Cel) (head : Nd) (rest : Bool) (j : Nat) : List SV := if rest then [] else (List.range j).map (intoRaw c head)
def rowRaw (k : Nat) (head : Nd) (rest : Bool) (r : Rw) : SV := .agg [.slice .imm 7 ((r.cols.take k).map celSV ++ midRaw (r.cols.getD k default) head rest head.kids.length ++ (r.cols.drop (k + 1)).map celSV),i64 r.pl]
def keepB (k : Nat) (head : Nd) (rest : Bool) (r : Rw) : Bool := if rest then looseB (r.cols.getD k default).pat else looseB (r.cols.getD k default).pat || sameB (r.cols.getD k default).pat head
def leftRaw (rows : List Rw) (k : Nat) (head : Nd) (rest : Bool) : List SV := (rows.filter (keepB k head rest)).map (rowRaw k head rest)
theorem leftR_eq (rows : List Rw) (k : Nat) (head : Nd) (rest : Bool) : leftR eqsS rows k head rest = (rows.filter (keepB k head rest)).map fun r => ⟨r.cols.take k ++ (if rest then [] else intoL (r.cols.getD k default) head) ++ r.cols.drop (k + 1),r.pl⟩ := rfl
theorem lesE_refl : ∀ l : List SV,SVlesE l l
  | [] => .nil
  | x :: r => .cons (SVles.refl _) (lesE_refl r)
theorem lesE_app {a b c d : List SV} (h : SVlesE a b) (k : SVlesE c d) : SVlesE (a ++ c) (b ++ d) := by
  induction h with
  | nil => exact k
  | cons h1 _ ih => exact .cons h1 ih
theorem lesE_map {α : Type} (f g : α → SV) (h : ∀ x,SVles (f x).cells (g x).cells) : ∀ l : List α,SVlesE (l.map f) (l.map g)
  | [] => .nil
  | x :: r => .cons (h x) (lesE_map f g h r)
theorem rowRaw_le (k : Nat) (head : Nd) (rest : Bool) (r : Rw) : SVles (rowRaw k head rest r).cells (rwSV ⟨r.cols.take k ++ (if rest then [] else intoL (r.cols.getD k default) head) ++ r.cols.drop (k + 1),r.pl⟩).cells := by
  refine .cons (SVle.slice rfl ?_) (.cons (SVle.refl _) .nil)
  rw [List.map_append,List.map_append]
  refine lesE_app (lesE_app (lesE_refl _) ?_) (lesE_refl _)
  unfold midRaw
  cases rest with
  | true => exact .nil
  | false =>
    simp only [Bool.false_eq_true,if_false]
    rw [intoL_eq,List.map_map]
    exact lesE_map _ _ (fun j => intoRaw_le _ _ _) _
theorem left_le (rows : List Rw) (k : Nat) (head : Nd) (rest : Bool) (m : AL.Mode) : SVle (.slice m 2 (leftRaw rows k head rest)) (.slice .imm 2 ((leftR eqsS rows k head rest).map rwSV)) := by
  refine SVle.slice (by cases m <;> rfl) ?_
  rw [leftR_eq,List.map_map]
  exact lesE_map _ _ (fun r => rowRaw_le k head rest r) _
theorem leftRaw_step (rows : List Rw) (k : Nat) (head : Nd) (rest : Bool) {j : Nat} (h : j < rows.length) : leftRaw (rows.take (j + 1)) k head rest = leftRaw (rows.take j) k head rest ++ if keepB k head rest rows[j] then [rowRaw k head rest rows[j]] else [] := by
  unfold leftRaw
  rw [List.take_succ_eq_append_getElem h,List.filter_append,List.map_append]
  congr 1
  simp only [List.filter_cons,List.filter_nil]
  split <;> simp
theorem leftRaw_len (rows : List Rw) (k : Nat) (head : Nd) (rest : Bool) : (leftRaw rows k head rest).length ≤ rows.length := by
  unfold leftRaw; rw [List.length_map]; exact List.length_filter_le _ _
theorem left32_c (m : AL.Mode) (rows : List Rw) (k : Nat) (head : Nd) (rest : Bool) (hk : RowsOk rows k head) (K : SV → St → Prop) (st : St) (h : K (.slice .imm 2 ((leftR eqsS rows k head rest).map rwSV)) st) :
    ACalls Try.prog 32 [.slice m 2 (rows.map rwSV),i64 k,nodeSV head,.sc (.bool rest)] K st := by
  refine acalls_goV [] Try.func32 rfl Try.results32 Try.ntmps32 ?_
  simp -implicitDefEqProofs (maxSteps := 2000000) only [↓ops_nil,↓ops_none,↓ops_some,↓kd_eff,↓dr_nil,↓dr_cons,↓d1_none,↓d1_some,↓eff_store,↓eff_box,↓eff_alloc,↓eff_build,↓eff_buildSlice,↓eff_call,↓eff_append,↓eff_copy,↓eff_cap,↓eff_clear,↓eff_make,↓reduceIte,↓c_condI,↓c_seqH,↓c_blockH,↓then_nH,↓then_rH,↓then_eH,↓block_nH,↓block_rH,↓block_eH,go_sem]
  refine awp_own 9 2 0 rfl ?_
  refine awp_rounds [] (fun b e s => ∃ i v,i + b = rows.length ∧ s[st.length]? = some (.tok v) ∧ (∃ ex,s = st ++ ex) ∧ e = [.slice m 2 (rows.map rwSV),i64 k,.any,.sc (.bool rest),.any,.any,.ref (nodeSV head).cells,.any,.any,.slice (.own st.length v) 2 (leftRaw (rows.take i) k head rest),i64 i,.any,.any,.any,.any,.any,.any,.any,.any,.any,.any,.any,.any,.any,.any,.any,.any,.any,.any,.any,.any,.any,.any,.any,.any,.any,.any,.any,.any,.any,.any,.any,.any,.any,.any,.any,.any,.any,.any,.any,.any,.any,.any,.any,.any,.any,.any,.any,.any,.any,.any,.any,.any,.any,.any,.any,.any,.any,.any,.any,.any,.any,.any,.any,.any,.any,.any,.any,.any,.any,.any,.any,.any,.any,.any,.any,.any,.any,.any,.any,.any,.any,.any,.any,.any,.any,.any,.any,.any,.any,.any,.any,.any,.any,.any,.any,.any,.any,.any,.any,.any,.any,.any,.any,.any,.any,.any,.any,.any,.any,.any,.any,.any]) (n := rows.length) ?_ ⟨0,0,by omega,by simp,⟨_,rfl⟩,rfl⟩ ?_
  · simp only [List.set_cons_succ,List.set_cons_zero]
    repeat (first | exact leEnv_nil | refine leEnv_any _ ?_ | refine leEnv_same _ ?_ | refine leEnv_norm _ ?_)
  rintro b e s ⟨i,v,hib,hT,hex,rfl⟩
  by_cases hlt : i < rows.length
  · have c1 : (i : Int) < (rows.length : Int) := by omega
    have c3 : (0 : Int) ≤ (i : Int) := by omega
    have hw := wrap1 (k := i) (by have := hk.len; omega)
    have hgt := getm rwSV hlt
    have hmem : rows[i] ∈ rows := List.getElem_mem hlt
    have hcol := hk.col _ hmem
    have hfew := hk.few _ hmem
    have hpath := hk.path _ hmem
    have hhas := hk.has _ hmem
    have hkids := hk.kids
    have hstep := leftRaw_step rows k head rest hlt
    have hul := leftRaw_len (rows.take i) k head rest
    have hlj : (rows.take i).length ≤ 100 := by have := hk.len; rw [List.length_take]; omega
    obtain ⟨r,hr⟩ : ∃ r,rows[i] = r := ⟨_,rfl⟩
    rw [hr] at hgt hcol hfew hpath hhas hstep
    unfold keepB at hstep
    have hgc := getm celSV hcol
    obtain ⟨c,hc⟩ : ∃ c,r.cols.getD k default = c := ⟨_,rfl⟩
    have hc2 : r.cols[k] = c := by rw [← hc,getd hcol]
    rw [hc2] at hgc
    rw [hc] at hpath hhas hstep
    have c2 : (k : Int) < (r.cols.length : Int) := by omega
    have c4 : (0 : Int) ≤ (k : Int) := by omega
    have c5 : (k : Int) ≤ (r.cols.length : Int) := by omega
    obtain ⟨S1,hS1⟩ : ∃ S1,s ++ [Ob.cells (nodeSV c.pat).cells] = S1 := ⟨_,rfl⟩
    have g11 : S1[s.length]? = some (.cells (nodeSV c.pat).cells) := by rw [← hS1]; simp
    have r11 := cells_facts g11
    have gT : S1[st.length]? = some (.tok v) := by rw [← hS1]; exact get_app hT _
    have hex1 : ∃ ex,S1 = st ++ ex := by rw [← hS1]; exact ex_app2 hex _
    have hl1 : S1.length = s.length + 1 := by rw [← hS1]; simp
    obtain ⟨lo,hlo⟩ : ∃ lo,looseB c.pat = lo := ⟨_,rfl⟩
    obtain ⟨sa,hsa⟩ : ∃ sa,sameB c.pat head = sa := ⟨_,rfl⟩
    rw [hlo,hsa] at hstep
    have hap := app58 (n := (r.cols.take k).length) (by rw [List.length_take]; omega)
    have c8 : ((0 : Nat) : Int) ≤ (k : Int) := by omega
    cases rest with
    | true =>
      cases lo with
      | false =>
        simp -implicitDefEqProofs (maxSteps := 2000000) only [↓ops_nil,↓ops_none,↓ops_some,↓kd_eff,↓dr_nil,↓dr_cons,↓d1_none,↓d1_some,↓eff_store,↓eff_box,↓eff_alloc,↓eff_build,↓eff_buildSlice,↓eff_call,↓eff_append,↓eff_copy,↓eff_cap,↓eff_clear,↓eff_make,↓reduceIte,↓c_condI,↓c_seqH,↓c_blockH,↓then_nH,↓then_rH,↓then_eH,↓block_nH,↓block_rH,↓block_eH,go_sem,c1,c2,c3,c4,hgt,hgc,rwSV,celSV,agg_nd,cell_nd,hS1,r11.1,r11.2.1,r11.2.2,List.length_map]
        refine loose31_c _ _ _ ?_
        rw [hlo]
        simp only [Bool.false_eq_true,if_false,List.append_nil,Bool.or_false,Bool.or_true,Bool.true_or,Bool.false_or,if_true] at hstep
        simp -implicitDefEqProofs (maxSteps := 2000000) only [↓ops_nil,↓ops_none,↓ops_some,↓kd_eff,↓dr_nil,↓dr_cons,↓d1_none,↓d1_some,↓eff_store,↓eff_box,↓eff_alloc,↓eff_build,↓eff_buildSlice,↓eff_call,↓eff_append,↓eff_copy,↓eff_cap,↓eff_clear,↓eff_make,↓reduceIte,↓c_condI,↓c_seqH,↓c_blockH,↓then_nH,↓then_rH,↓then_eH,↓block_nH,↓block_rH,↓block_eH,go_sem,hw]
        refine ⟨b - 1,[.slice m 2 (rows.map rwSV),i64 k,.any,.sc (.bool true),.any,.any,.ref (nodeSV head).cells,.any,.any,.slice (.own st.length v) 2 (leftRaw (rows.take (i + 1)) k head true),i64 ((i + 1 : Nat) : Int),.any,.any,.any,.any,.any,.any,.any,.any,.any,.any,.any,.any,.any,.any,.any,.any,.any,.any,.any,.any,.any,.any,.any,.any,.any,.any,.any,.any,.any,.any,.any,.any,.any,.any,.any,.any,.any,.any,.any,.any,.any,.any,.any,.any,.any,.any,.any,.any,.any,.any,.any,.any,.any,.any,.any,.any,.any,.any,.any,.any,.any,.any,.any,.any,.any,.any,.any,.any,.any,.any,.any,.any,.any,.any,.any,.any,.any,.any,.any,.any,.any,.any,.any,.any,.any,.any,.any,.any,.any,.any,.any,.any,.any,.any,.any,.any,.any,.any,.any,.any,.any,.any,.any,.any,.any,.any,.any,.any,.any,.any,.any,.any],by omega,?_,i + 1,v,by omega,gT,hex1,rfl⟩
        rw [hstep]
        repeat (first | exact leEnv_nil | refine leEnv_any _ ?_ | refine leEnv_same _ ?_ | refine leEnv_norm _ ?_)
      | true =>
        apply use_cut
        case h =>
          intro g
          simp -implicitDefEqProofs (maxSteps := 2000000) only [↓ops_nil,↓ops_none,↓ops_some,↓kd_eff,↓dr_nil,↓dr_cons,↓d1_none,↓d1_some,↓eff_store,↓eff_box,↓eff_alloc,↓eff_build,↓eff_buildSlice,↓eff_call,↓eff_append,↓eff_copy,↓eff_cap,↓eff_clear,↓eff_make,↓reduceIte,↓c_condI,↓c_seqH,↓c_blockH,↓then_nH,↓then_rH,↓then_eH,↓block_nH,↓block_rH,↓block_eH,go_sem,c1,c2,c3,c4,hgt,hgc,rwSV,celSV,agg_nd,cell_nd,hS1,r11.1,r11.2.1,r11.2.2,List.length_map]
          refine loose31_c _ _ _ ?_
          rw [hlo]
          simp -implicitDefEqProofs (maxSteps := 2000000) only [↓ops_nil,↓ops_none,↓ops_some,↓kd_eff,↓dr_nil,↓dr_cons,↓d1_none,↓d1_some,↓eff_store,↓eff_box,↓eff_alloc,↓eff_build,↓eff_buildSlice,↓eff_call,↓eff_append,↓eff_copy,↓eff_cap,↓eff_clear,↓eff_make,↓reduceIte,↓c_condI,↓c_seqH,↓c_blockH,↓then_nH,↓then_rH,↓then_eH,↓block_nH,↓block_rH,↓block_eH,go_sem,c1,c2,c3,c4,hgt,hgc,rwSV,celSV,agg_nd,cell_nd,hS1,r11.1,r11.2.1,r11.2.2,List.length_map,c5,c8,Int.toNat_natCast,← List.map_take]
          refine ⟨hap,?_⟩
          rw [hl1]
          refine awp_weaken (b := [.slice m 2 (rows.map rwSV),i64 k,.any,.sc (.bool true),.any,.any,.ref (nodeSV head).cells,.any,.any,.slice (.own st.length v) 2 (leftRaw (rows.take i) k head true),i64 i,.ptr s.length 0,.sc (.bool true),.slice (.own (s.length + 1) 0) 7 ((r.cols.take k).map celSV),i64 0,.any,.any,.any,.any,.any,.any,.any,.any,.any,.any,.any,.any,.any,.any,.any,.any,.any,.any,.any,.any,.any,.any,.any,.any,.any,.any,.any,.any,.any,.any,.any,.any,.any,.any,.any,.any,.any,.any,.any,.any,.any,.any,.any,.any,.any,.any,.any,.any,.any,.any,.any,.any,.any,.any,.any,.any,.any,.any,.any,.any,.any,.any,.any,.any,.any,.any,.any,.any,.any,.any,.any,.any,.any,.any,.any,.any,.any,.any,.any,.any,.any,.any,.any,.any,.any,.any,.any,.any,.any,.any,.any,.any,.any,.any,.any,.any,.any,.any,.any,.any,.any,.any,.any,.any,.any,.any,.any,.any]) ?_ g
          repeat (first | exact leEnv_nil | refine leEnv_any _ ?_ | refine leEnv_same _ ?_ | refine leEnv_norm _ ?_)
        case hz =>
          have hl2 : st.length < s.length := lt_of_get hT
          have hwk := wrap1 (k := k) (by omega)
          have hokA : ∀ s ∈ (r.cols.drop (k + 1)).map celSV,s.cells.all cellOk = true := fun x hx => by
            obtain ⟨c,_,rfl⟩ := List.mem_map.1 hx
            rfl
          have c6 : ((k + 1 : Nat) : Int) ≤ (r.cols.length : Int) := by omega
          have c7 : (0 : Int) ≤ ((k + 1 : Nat) : Int) := by omega
          simp only [if_true] at hstep
          have hrow : rowRaw k head true r = .agg [.slice .imm 7 ((r.cols.take k).map celSV ++ (r.cols.drop (k + 1)).map celSV),i64 r.pl] := by unfold rowRaw midRaw; rw [if_pos rfl,List.append_nil]
          have hapA := app58 (n := (r.cols.take k).length + (r.cols.drop (k + 1)).length) (by rw [List.length_take,List.length_drop]; omega)
          have hapB := app55 (n := (leftRaw (rows.take i) k head true).length + 1) (by omega)
          obtain ⟨s3,hs3⟩ : ∃ s3,S1 ++ [Ob.tok 0] = s3 := ⟨_,rfl⟩
          have hT3 : s3[st.length]? = some (.tok v) := by rw [← hs3]; exact get_app gT _
          have hU3 : s3[s.length + 1]? = some (.tok 0) := by rw [← hs3,← hl1]; simp
          have hex3 : ∃ ex,s3 = st ++ ex := by rw [← hs3]; exact ex_app2 hex1 _
          rw [hs3]
          refine awp_rounds [] (fun b2 e s2 => s2 = s3 ∧ e = [.slice m 2 (rows.map rwSV),i64 k,.any,.sc (.bool true),.any,.any,.ref (nodeSV head).cells,.any,.any,.slice (.own st.length v) 2 (leftRaw (rows.take i) k head true),i64 i,.ptr s.length 0,.sc (.bool true),.slice (.own (s.length + 1) 0) 7 ((r.cols.take k).map celSV),i64 0,.any,.any,.any,.any,.any,.any,.any,.any,.any,.any,.any,.any,.any,.any,.any,.any,.any,.any,.any,.any,.any,.any,.any,.any,.any,.any,.any,.any,.any,.any,.any,.any,.any,.any,.any,.any,.any,.any,.any,.any,.any,.any,.any,.any,.any,.any,.any,.any,.any,.any,.any,.any,.any,.any,.any,.any,.any,.any,.any,.any,.any,.any,.any,.any,.any,.any,.any,.any,.any,.any,.any,.any,.any,.any,.any,.any,.any,.any,.any,.any,.any,.any,.any,.any,.any,.any,.any,.any,.any,.any,.any,.any,.any,.any,.any,.any,.any,.any,.any,.any,.any,.any,.any,.any,.any,.any,.any,.any]) (n := 0) ?_ ⟨rfl,rfl⟩ ?_
          · repeat (first | exact leEnv_nil | refine leEnv_any _ ?_ | refine leEnv_same _ ?_ | refine leEnv_norm _ ?_)
          rintro b2 e s2 ⟨rfl,rfl⟩
          by_cases h0 : (0 : Int) < (head.kids.length : Int)
          · have qU := tokAt_eq (v' := 0) hU3
            have qT := tokAt_eq (v' := v) (show (s2.set (s.length + 1) (.tok (0 + 1)))[st.length]? = some (.tok v) from (set_get_ne (by omega)).trans hT3)
            simp -implicitDefEqProofs (maxSteps := 2000000) only [↓ops_nil,↓ops_none,↓ops_some,↓kd_eff,↓dr_nil,↓dr_cons,↓d1_none,↓d1_some,↓eff_store,↓eff_box,↓eff_alloc,↓eff_build,↓eff_buildSlice,↓eff_call,↓eff_append,↓eff_copy,↓eff_cap,↓eff_clear,↓eff_make,↓reduceIte,↓c_condI,↓c_seqH,↓c_blockH,↓then_nH,↓then_rH,↓then_eH,↓block_nH,↓block_rH,↓block_eH,go_sem,h0,c1,c2,c3,c4,c6,c7,hgt,rwSV,hwk,hw,qU,qT,Int.toNat_natCast,List.length_map,List.take_length,← List.map_drop]
            refine ⟨hapA,hokA,hapB,b - 1,[.slice m 2 (rows.map rwSV),i64 k,.any,.sc (.bool true),.any,.any,.ref (nodeSV head).cells,.any,.any,.slice (.own st.length (v + 1)) 2 (leftRaw (rows.take (i + 1)) k head true),i64 ((i + 1 : Nat) : Int),.any,.any,.any,.any,.any,.any,.any,.any,.any,.any,.any,.any,.any,.any,.any,.any,.any,.any,.any,.any,.any,.any,.any,.any,.any,.any,.any,.any,.any,.any,.any,.any,.any,.any,.any,.any,.any,.any,.any,.any,.any,.any,.any,.any,.any,.any,.any,.any,.any,.any,.any,.any,.any,.any,.any,.any,.any,.any,.any,.any,.any,.any,.any,.any,.any,.any,.any,.any,.any,.any,.any,.any,.any,.any,.any,.any,.any,.any,.any,.any,.any,.any,.any,.any,.any,.any,.any,.any,.any,.any,.any,.any,.any,.any,.any,.any,.any,.any,.any,.any,.any,.any,.any,.any,.any,.any,.any,.any,.any,.any,.any,.any],by omega,?_,i + 1,v + 1,by omega,set_get (by rw [List.length_set]; exact lt_of_get hT3),ex_set (ex_set hex3 (by omega) _) (Nat.le_refl _) _,rfl⟩
            rw [hstep,← hrow]
            repeat (first | exact leEnv_nil | refine leEnv_any _ ?_ | refine leEnv_same _ ?_ | refine leEnv_norm _ ?_)
          · have qU := tokAt_eq (v' := 0) hU3
            have qT := tokAt_eq (v' := v) (show (s2.set (s.length + 1) (.tok (0 + 1)))[st.length]? = some (.tok v) from (set_get_ne (by omega)).trans hT3)
            simp -implicitDefEqProofs (maxSteps := 2000000) only [↓ops_nil,↓ops_none,↓ops_some,↓kd_eff,↓dr_nil,↓dr_cons,↓d1_none,↓d1_some,↓eff_store,↓eff_box,↓eff_alloc,↓eff_build,↓eff_buildSlice,↓eff_call,↓eff_append,↓eff_copy,↓eff_cap,↓eff_clear,↓eff_make,↓reduceIte,↓c_condI,↓c_seqH,↓c_blockH,↓then_nH,↓then_rH,↓then_eH,↓block_nH,↓block_rH,↓block_eH,go_sem,h0,c1,c2,c3,c4,c6,c7,hgt,rwSV,hwk,hw,qU,qT,Int.toNat_natCast,List.length_map,List.take_length,← List.map_drop]
            refine ⟨hapA,hokA,hapB,b - 1,[.slice m 2 (rows.map rwSV),i64 k,.any,.sc (.bool true),.any,.any,.ref (nodeSV head).cells,.any,.any,.slice (.own st.length (v + 1)) 2 (leftRaw (rows.take (i + 1)) k head true),i64 ((i + 1 : Nat) : Int),.any,.any,.any,.any,.any,.any,.any,.any,.any,.any,.any,.any,.any,.any,.any,.any,.any,.any,.any,.any,.any,.any,.any,.any,.any,.any,.any,.any,.any,.any,.any,.any,.any,.any,.any,.any,.any,.any,.any,.any,.any,.any,.any,.any,.any,.any,.any,.any,.any,.any,.any,.any,.any,.any,.any,.any,.any,.any,.any,.any,.any,.any,.any,.any,.any,.any,.any,.any,.any,.any,.any,.any,.any,.any,.any,.any,.any,.any,.any,.any,.any,.any,.any,.any,.any,.any,.any,.any,.any,.any,.any,.any,.any,.any,.any,.any,.any,.any,.any,.any,.any,.any,.any,.any,.any,.any,.any,.any,.any,.any,.any,.any],by omega,?_,i + 1,v + 1,by omega,set_get (by rw [List.length_set]; exact lt_of_get hT3),ex_set (ex_set hex3 (by omega) _) (Nat.le_refl _) _,rfl⟩
            rw [hstep,← hrow]
            repeat (first | exact leEnv_nil | refine leEnv_any _ ?_ | refine leEnv_same _ ?_ | refine leEnv_norm _ ?_)
    | false =>
      simp only [Bool.false_eq_true,if_false] at hstep
      rcases (show (lo = false ∧ sa = false) ∨ (lo || sa) = true by cases lo <;> cases sa <;> simp) with ⟨rfl,rfl⟩ | hok
      · simp only [Bool.or_self,Bool.false_eq_true,if_false,List.append_nil] at hstep
        simp -implicitDefEqProofs (maxSteps := 2000000) only [↓ops_nil,↓ops_none,↓ops_some,↓kd_eff,↓dr_nil,↓dr_cons,↓d1_none,↓d1_some,↓eff_store,↓eff_box,↓eff_alloc,↓eff_build,↓eff_buildSlice,↓eff_call,↓eff_append,↓eff_copy,↓eff_cap,↓eff_clear,↓eff_make,↓reduceIte,↓c_condI,↓c_seqH,↓c_blockH,↓then_nH,↓then_rH,↓then_eH,↓block_nH,↓block_rH,↓block_eH,go_sem,c1,c2,c3,c4,hgt,hgc,rwSV,celSV,agg_nd,cell_nd,hS1,r11.1,r11.2.1,r11.2.2,List.length_map]
        refine loose31_c _ _ _ ?_
        rw [hlo]
        simp -implicitDefEqProofs (maxSteps := 2000000) only [↓ops_nil,↓ops_none,↓ops_some,↓kd_eff,↓dr_nil,↓dr_cons,↓d1_none,↓d1_some,↓eff_store,↓eff_box,↓eff_alloc,↓eff_build,↓eff_buildSlice,↓eff_call,↓eff_append,↓eff_copy,↓eff_cap,↓eff_clear,↓eff_make,↓reduceIte,↓c_condI,↓c_seqH,↓c_blockH,↓then_nH,↓then_rH,↓then_eH,↓block_nH,↓block_rH,↓block_eH,go_sem,c1,c2,c3,c4,hgt,hgc,rwSV,celSV,agg_nd,cell_nd,hS1,r11.1,r11.2.1,r11.2.2,List.length_map]
        refine same63_c _ _ _ _ ?_
        rw [hsa]
        simp -implicitDefEqProofs (maxSteps := 2000000) only [↓ops_nil,↓ops_none,↓ops_some,↓kd_eff,↓dr_nil,↓dr_cons,↓d1_none,↓d1_some,↓eff_store,↓eff_box,↓eff_alloc,↓eff_build,↓eff_buildSlice,↓eff_call,↓eff_append,↓eff_copy,↓eff_cap,↓eff_clear,↓eff_make,↓reduceIte,↓c_condI,↓c_seqH,↓c_blockH,↓then_nH,↓then_rH,↓then_eH,↓block_nH,↓block_rH,↓block_eH,go_sem,hw]
        refine ⟨b - 1,[.slice m 2 (rows.map rwSV),i64 k,.any,.sc (.bool false),.any,.any,.ref (nodeSV head).cells,.any,.any,.slice (.own st.length v) 2 (leftRaw (rows.take (i + 1)) k head false),i64 ((i + 1 : Nat) : Int),.any,.any,.any,.any,.any,.any,.any,.any,.any,.any,.any,.any,.any,.any,.any,.any,.any,.any,.any,.any,.any,.any,.any,.any,.any,.any,.any,.any,.any,.any,.any,.any,.any,.any,.any,.any,.any,.any,.any,.any,.any,.any,.any,.any,.any,.any,.any,.any,.any,.any,.any,.any,.any,.any,.any,.any,.any,.any,.any,.any,.any,.any,.any,.any,.any,.any,.any,.any,.any,.any,.any,.any,.any,.any,.any,.any,.any,.any,.any,.any,.any,.any,.any,.any,.any,.any,.any,.any,.any,.any,.any,.any,.any,.any,.any,.any,.any,.any,.any,.any,.any,.any,.any,.any,.any,.any,.any,.any,.any,.any,.any,.any],by omega,?_,i + 1,v,by omega,gT,hex1,rfl⟩
        rw [hstep]
        repeat (first | exact leEnv_nil | refine leEnv_any _ ?_ | refine leEnv_same _ ?_ | refine leEnv_norm _ ?_)
      rw [hok] at hstep
      simp only [if_true] at hstep
      have hhas2 : lo = false → head.kids.length ≤ c.pat.kids.length := fun e => hhas (by rw [hlo,e]) (by rw [hsa]; subst e; simpa using hok)
      have hsa2 : lo = false → sa = true := fun e => by subst e; simpa using hok
      apply use_cut
      case h =>
        rcases (Bool.eq_false_or_eq_true lo).symm with e | e
        · have hsat := hsa2 e
          intro g
          simp -implicitDefEqProofs (maxSteps := 2000000) only [↓ops_nil,↓ops_none,↓ops_some,↓kd_eff,↓dr_nil,↓dr_cons,↓d1_none,↓d1_some,↓eff_store,↓eff_box,↓eff_alloc,↓eff_build,↓eff_buildSlice,↓eff_call,↓eff_append,↓eff_copy,↓eff_cap,↓eff_clear,↓eff_make,↓reduceIte,↓c_condI,↓c_seqH,↓c_blockH,↓then_nH,↓then_rH,↓then_eH,↓block_nH,↓block_rH,↓block_eH,go_sem,c1,c2,c3,c4,hgt,hgc,rwSV,celSV,agg_nd,cell_nd,hS1,r11.1,r11.2.1,r11.2.2,List.length_map]
          refine loose31_c _ _ _ ?_
          rw [hlo]
          simp -implicitDefEqProofs (maxSteps := 2000000) only [↓ops_nil,↓ops_none,↓ops_some,↓kd_eff,↓dr_nil,↓dr_cons,↓d1_none,↓d1_some,↓eff_store,↓eff_box,↓eff_alloc,↓eff_build,↓eff_buildSlice,↓eff_call,↓eff_append,↓eff_copy,↓eff_cap,↓eff_clear,↓eff_make,↓reduceIte,↓c_condI,↓c_seqH,↓c_blockH,↓then_nH,↓then_rH,↓then_eH,↓block_nH,↓block_rH,↓block_eH,go_sem,e,c1,c2,c3,c4,hgt,hgc,rwSV,celSV,agg_nd,cell_nd,hS1,r11.1,r11.2.1,r11.2.2,List.length_map]
          refine same63_c _ _ _ _ ?_
          rw [hsa,hsat]
          simp -implicitDefEqProofs (maxSteps := 2000000) only [↓ops_nil,↓ops_none,↓ops_some,↓kd_eff,↓dr_nil,↓dr_cons,↓d1_none,↓d1_some,↓eff_store,↓eff_box,↓eff_alloc,↓eff_build,↓eff_buildSlice,↓eff_call,↓eff_append,↓eff_copy,↓eff_cap,↓eff_clear,↓eff_make,↓reduceIte,↓c_condI,↓c_seqH,↓c_blockH,↓then_nH,↓then_rH,↓then_eH,↓block_nH,↓block_rH,↓block_eH,go_sem,c1,c2,c3,c4,hgt,hgc,rwSV,celSV,agg_nd,cell_nd,hS1,r11.1,r11.2.1,r11.2.2,List.length_map,c5,c8,Int.toNat_natCast,← List.map_take]
          refine ⟨hap,?_⟩
          rw [hl1]
          refine awp_weaken (b := [.slice m 2 (rows.map rwSV),i64 k,.any,.sc (.bool false),.any,.any,.ref (nodeSV head).cells,.any,.any,.slice (.own st.length v) 2 (leftRaw (rows.take i) k head false),i64 i,.ptr s.length 0,.sc (.bool lo),.slice (.own (s.length + 1) 0) 7 ((r.cols.take k).map celSV ++ (List.range 0).map (intoRaw c head)),i64 0,.any,.any,.any,.any,.any,.any,.any,.any,.any,.any,.any,.any,.any,.any,.any,.any,.any,.any,.any,.any,.any,.any,.any,.any,.any,.any,.any,.any,.any,.any,.any,.any,.any,.any,.any,.any,.any,.any,.any,.any,.any,.any,.any,.any,.any,.any,.any,.any,.any,.any,.any,.any,.any,.any,.any,.any,.any,.any,.any,.any,.any,.any,.any,.any,.any,.any,.any,.any,.any,.any,.any,.any,.any,.any,.any,.any,.any,.any,.any,.any,.any,.any,.any,.any,.any,.any,.any,.any,.any,.any,.any,.any,.any,.any,.any,.any,.any,.any,.any,.any,.any,.any,.any,.any,.any,.any,.any,.any]) ?_ g
          rw [e]
          simp only [List.range_zero,List.map_nil,List.append_nil]
          repeat (first | exact leEnv_nil | refine leEnv_any _ ?_ | refine leEnv_same _ ?_ | refine leEnv_norm _ ?_)
        · intro g
          simp -implicitDefEqProofs (maxSteps := 2000000) only [↓ops_nil,↓ops_none,↓ops_some,↓kd_eff,↓dr_nil,↓dr_cons,↓d1_none,↓d1_some,↓eff_store,↓eff_box,↓eff_alloc,↓eff_build,↓eff_buildSlice,↓eff_call,↓eff_append,↓eff_copy,↓eff_cap,↓eff_clear,↓eff_make,↓reduceIte,↓c_condI,↓c_seqH,↓c_blockH,↓then_nH,↓then_rH,↓then_eH,↓block_nH,↓block_rH,↓block_eH,go_sem,c1,c2,c3,c4,hgt,hgc,rwSV,celSV,agg_nd,cell_nd,hS1,r11.1,r11.2.1,r11.2.2,List.length_map]
          refine loose31_c _ _ _ ?_
          rw [hlo]
          simp -implicitDefEqProofs (maxSteps := 2000000) only [↓ops_nil,↓ops_none,↓ops_some,↓kd_eff,↓dr_nil,↓dr_cons,↓d1_none,↓d1_some,↓eff_store,↓eff_box,↓eff_alloc,↓eff_build,↓eff_buildSlice,↓eff_call,↓eff_append,↓eff_copy,↓eff_cap,↓eff_clear,↓eff_make,↓reduceIte,↓c_condI,↓c_seqH,↓c_blockH,↓then_nH,↓then_rH,↓then_eH,↓block_nH,↓block_rH,↓block_eH,go_sem,e,c1,c2,c3,c4,hgt,hgc,rwSV,celSV,agg_nd,cell_nd,hS1,r11.1,r11.2.1,r11.2.2,List.length_map,c5,c8,Int.toNat_natCast,← List.map_take]
          refine ⟨hap,?_⟩
          rw [hl1]
          refine awp_weaken (b := [.slice m 2 (rows.map rwSV),i64 k,.any,.sc (.bool false),.any,.any,.ref (nodeSV head).cells,.any,.any,.slice (.own st.length v) 2 (leftRaw (rows.take i) k head false),i64 i,.ptr s.length 0,.sc (.bool lo),.slice (.own (s.length + 1) 0) 7 ((r.cols.take k).map celSV ++ (List.range 0).map (intoRaw c head)),i64 0,.any,.any,.any,.any,.any,.any,.any,.any,.any,.any,.any,.any,.any,.any,.any,.any,.any,.any,.any,.any,.any,.any,.any,.any,.any,.any,.any,.any,.any,.any,.any,.any,.any,.any,.any,.any,.any,.any,.any,.any,.any,.any,.any,.any,.any,.any,.any,.any,.any,.any,.any,.any,.any,.any,.any,.any,.any,.any,.any,.any,.any,.any,.any,.any,.any,.any,.any,.any,.any,.any,.any,.any,.any,.any,.any,.any,.any,.any,.any,.any,.any,.any,.any,.any,.any,.any,.any,.any,.any,.any,.any,.any,.any,.any,.any,.any,.any,.any,.any,.any,.any,.any,.any,.any,.any,.any,.any,.any]) ?_ g
          rw [e]
          simp only [List.range_zero,List.map_nil,List.append_nil]
          repeat (first | exact leEnv_nil | refine leEnv_any _ ?_ | refine leEnv_same _ ?_ | refine leEnv_norm _ ?_)
      case hz =>
        have hl2 : st.length < s.length := lt_of_get hT
        have hwk := wrap1 (k := k) (by omega)
        have hokA : ∀ s ∈ (r.cols.drop (k + 1)).map celSV,s.cells.all cellOk = true := fun x hx => by
          obtain ⟨c,_,rfl⟩ := List.mem_map.1 hx
          rfl
        have c6 : ((k + 1 : Nat) : Int) ≤ (r.cols.length : Int) := by omega
        have c7 : (0 : Int) ≤ ((k + 1 : Nat) : Int) := by omega
        obtain ⟨s3,hs3⟩ : ∃ s3,S1 ++ [Ob.tok 0] = s3 := ⟨_,rfl⟩
        have hT3 : s3[st.length]? = some (.tok v) := by rw [← hs3]; exact get_app gT _
        have hU3 : s3[s.length + 1]? = some (.tok 0) := by rw [← hs3,← hl1]; simp
        have hP3 : s3[s.length]? = some (.cells (nodeSV c.pat).cells) := by rw [← hs3]; exact get_app g11 _
        have hex3 : ∃ ex,s3 = st ++ ex := by rw [← hs3]; exact ex_app2 hex1 _
        rw [hs3]
        refine awp_rounds [] (fun b2 e s2 => ∃ j w,j + b2 = head.kids.length ∧ s2[st.length]? = some (.tok v) ∧ s2[s.length + 1]? = some (.tok w) ∧ s2[s.length]? = some (.cells (nodeSV c.pat).cells) ∧ (∃ ex,s2 = st ++ ex) ∧ e = [.slice m 2 (rows.map rwSV),i64 k,.any,.sc (.bool false),.any,.any,.ref (nodeSV head).cells,.any,.any,.slice (.own st.length v) 2 (leftRaw (rows.take i) k head false),i64 i,.ptr s.length 0,.sc (.bool lo),.slice (.own (s.length + 1) w) 7 ((r.cols.take k).map celSV ++ (List.range j).map (intoRaw c head)),i64 j,.any,.any,.any,.any,.any,.any,.any,.any,.any,.any,.any,.any,.any,.any,.any,.any,.any,.any,.any,.any,.any,.any,.any,.any,.any,.any,.any,.any,.any,.any,.any,.any,.any,.any,.any,.any,.any,.any,.any,.any,.any,.any,.any,.any,.any,.any,.any,.any,.any,.any,.any,.any,.any,.any,.any,.any,.any,.any,.any,.any,.any,.any,.any,.any,.any,.any,.any,.any,.any,.any,.any,.any,.any,.any,.any,.any,.any,.any,.any,.any,.any,.any,.any,.any,.any,.any,.any,.any,.any,.any,.any,.any,.any,.any,.any,.any,.any,.any,.any,.any,.any,.any,.any,.any,.any,.any,.any,.any]) (n := head.kids.length) ?_ ⟨0,0,by omega,hT3,hU3,hP3,hex3,rfl⟩ ?_
        · repeat (first | exact leEnv_nil | refine leEnv_any _ ?_ | refine leEnv_same _ ?_ | refine leEnv_norm _ ?_)
        clear hs3 hT3 hU3 hP3 hex3 s3
        rintro b2 e s3 ⟨j,w,hj,hT3,hU3,hP3,hex3,rfl⟩
        by_cases hlj : j < head.kids.length
        · have d1 : (j : Int) < (head.kids.length : Int) := by omega
          have d3 : (0 : Int) ≤ (j : Int) := by omega
          have hwj := wrap1 (k := j) (by omega)
          have rP := cells_facts hP3
          have hl3 : s.length + 1 < s3.length := lt_of_get hU3
          have hap1 := app29 (n := c.path.length) (by omega)
          have hap2 := app29 (n := c.path.length + 1) (by omega)
          have hap3 := app58 (n := (r.cols.take k).length + (j + 1)) (by rw [List.length_take]; omega)
          rcases (Bool.eq_false_or_eq_true lo).symm with e | e
          · have hkl := hhas2 e
            have d2 : (j : Int) < (c.pat.kids.length : Int) := by omega
            have hgk := getm nodeSV (l := c.pat.kids) (i := j) (by omega)
            obtain ⟨y,hy⟩ : ∃ y,c.pat.kids[j] = y := ⟨_,rfl⟩
            rw [hy] at hgk
            obtain ⟨S4,hS4⟩ : ∃ S4,s3 ++ [Ob.cells [i64 y.kind,str y.text,i64 y.number,i64 y.at_,.slice .imm 1 (y.names.map fun s => .sc (.string s)),.slice .imm 6 (y.kids.map nodeSV)]] = S4 := ⟨_,rfl⟩
            have hl4 : S4.length = s3.length + 1 := by rw [← hS4]; simp
            have r15 := cells_facts (show S4[s3.length]? = some (.cells [i64 y.kind,str y.text,i64 y.number,i64 y.at_,.slice .imm 1 (y.names.map fun s => .sc (.string s)),.slice .imm 6 (y.kids.map nodeSV)]) by rw [← hS4]; simp)
            have hU4 : S4[s.length + 1]? = some (.tok w) := by rw [← hS4]; exact get_app hU3 _
            have hcy : (nodeSV y).cells = [i64 y.kind,str y.text,i64 y.number,i64 y.at_,.slice .imm 1 (y.names.map fun s => .sc (.string s)),.slice .imm 6 (y.kids.map nodeSV)] := cells_node y
            have qU := tokAt_eq (v' := w) (get_app hU4 [Ob.tok 1])
            have hpat := patU_false (head := head) (k := j) (by rw [hlo,e]) (by omega)
            rw [hy] at hpat
            have e7 : intoRaw c head j = .agg ([i64 y.kind,str y.text,i64 y.number,i64 y.at_,.slice .imm 1 (y.names.map fun s => .sc (.string s)),.slice .imm 6 (y.kids.map nodeSV)] ++ [.slice .imm 1 (c.path.map i64 ++ [i64 j])]) := by
              unfold intoRaw
              rw [hlo,if_neg (by rw [e]; decide)]
              have hpa : (intoU c head j).path = c.path ++ [(j : Int)] := rfl
              unfold celSV
              rw [hpat,hpa,List.map_append]; rfl
            simp -implicitDefEqProofs (maxSteps := 2000000) only [↓ops_nil,↓ops_none,↓ops_some,↓kd_eff,↓dr_nil,↓dr_cons,↓d1_none,↓d1_some,↓eff_store,↓eff_box,↓eff_alloc,↓eff_build,↓eff_buildSlice,↓eff_call,↓eff_append,↓eff_copy,↓eff_cap,↓eff_clear,↓eff_make,↓reduceIte,↓c_condI,↓c_seqH,↓c_blockH,↓then_nH,↓then_rH,↓then_eH,↓block_nH,↓block_rH,↓block_eH,go_sem,e,d1,d2,d3,c1,c2,c3,c4,hgt,hgc,rwSV,celSV,cell_nd,hgk,rP.1,rP.2.1,rP.2.2,hcy,hS4,hl4,r15.1,r15.2.1,r15.2.2,qU,hwj,List.length_map,List.length_range]
            refine ⟨hap1,hap2,hap3,b2 - 1,[.slice m 2 (rows.map rwSV),i64 k,.any,.sc (.bool false),.any,.any,.ref (nodeSV head).cells,.any,.any,.slice (.own st.length v) 2 (leftRaw (rows.take i) k head false),i64 i,.ptr s.length 0,.sc (.bool false),.slice (.own (s.length + 1) (w + 1)) 7 ((r.cols.take k).map celSV ++ (List.range (j + 1)).map (intoRaw c head)),i64 ((j + 1 : Nat) : Int),.any,.any,.any,.any,.any,.any,.any,.any,.any,.any,.any,.any,.any,.any,.any,.any,.any,.any,.any,.any,.any,.any,.any,.any,.any,.any,.any,.any,.any,.any,.any,.any,.any,.any,.any,.any,.any,.any,.any,.any,.any,.any,.any,.any,.any,.any,.any,.any,.any,.any,.any,.any,.any,.any,.any,.any,.any,.any,.any,.any,.any,.any,.any,.any,.any,.any,.any,.any,.any,.any,.any,.any,.any,.any,.any,.any,.any,.any,.any,.any,.any,.any,.any,.any,.any,.any,.any,.any,.any,.any,.any,.any,.any,.any,.any,.any,.any,.any,.any,.any,.any,.any,.any,.any,.any,.any,.any,.any],by omega,?_,j + 1,w + 1,by omega,?_,?_,?_,?_,rfl⟩
            · rw [rangeU,e7]
              repeat (first | exact leEnv_nil | refine leEnv_any _ ?_ | refine leEnv_same _ ?_ | refine leEnv_norm _ ?_)
            · exact (set_get_ne (by omega)).trans (get_app (by rw [← hS4]; exact get_app hT3 _) _)
            · exact set_get (by rw [List.length_append]; have := lt_of_get hU4; omega)
            · exact (set_get_ne (by omega)).trans (get_app (by rw [← hS4]; exact get_app hP3 _) _)
            · rw [← hS4]; exact ex_set (ex_app2 (ex_app2 hex3 _) _) (by omega) _
          · obtain ⟨S4,hS4⟩ : ∃ S4,s3 ++ [Ob.cells [i64 24,str ⟨#[]⟩,i64 0,i64 0,.slice .full 0 [],.slice .full 0 []]] = S4 := ⟨_,rfl⟩
            have hl4 : S4.length = s3.length + 1 := by rw [← hS4]; simp
            have r15 := cells_facts (show S4[s3.length]? = some (.cells [i64 24,str ⟨#[]⟩,i64 0,i64 0,.slice .full 0 [],.slice .full 0 []]) by rw [← hS4]; simp)
            have hU4 : S4[s.length + 1]? = some (.tok w) := by rw [← hS4]; exact get_app hU3 _
            have qU := tokAt_eq (v' := w) (get_app hU4 [Ob.tok 1])
            have e7 : intoRaw c head j = .agg [i64 24,str ⟨#[]⟩,i64 0,i64 0,.slice .imm 0 [],.slice .imm 0 [],.slice .imm 1 (c.path.map i64 ++ [i64 j])] := by
              unfold intoRaw
              rw [hlo,if_pos e]; rfl
            simp -implicitDefEqProofs (maxSteps := 2000000) only [↓ops_nil,↓ops_none,↓ops_some,↓kd_eff,↓dr_nil,↓dr_cons,↓d1_none,↓d1_some,↓eff_store,↓eff_box,↓eff_alloc,↓eff_build,↓eff_buildSlice,↓eff_call,↓eff_append,↓eff_copy,↓eff_cap,↓eff_clear,↓eff_make,↓reduceIte,↓c_condI,↓c_seqH,↓c_blockH,↓then_nH,↓then_rH,↓then_eH,↓block_nH,↓block_rH,↓block_eH,go_sem,e,d1,d3,c1,c2,c3,c4,hgt,hgc,rwSV,celSV,hS4,hl4,r15.1,r15.2.1,r15.2.2,qU,hwj,List.length_map,List.length_range]
            refine ⟨hap1,hap2,hap3,b2 - 1,[.slice m 2 (rows.map rwSV),i64 k,.any,.sc (.bool false),.any,.any,.ref (nodeSV head).cells,.any,.any,.slice (.own st.length v) 2 (leftRaw (rows.take i) k head false),i64 i,.ptr s.length 0,.sc (.bool true),.slice (.own (s.length + 1) (w + 1)) 7 ((r.cols.take k).map celSV ++ (List.range (j + 1)).map (intoRaw c head)),i64 ((j + 1 : Nat) : Int),.any,.any,.any,.any,.any,.any,.any,.any,.any,.any,.any,.any,.any,.any,.any,.any,.any,.any,.any,.any,.any,.any,.any,.any,.any,.any,.any,.any,.any,.any,.any,.any,.any,.any,.any,.any,.any,.any,.any,.any,.any,.any,.any,.any,.any,.any,.any,.any,.any,.any,.any,.any,.any,.any,.any,.any,.any,.any,.any,.any,.any,.any,.any,.any,.any,.any,.any,.any,.any,.any,.any,.any,.any,.any,.any,.any,.any,.any,.any,.any,.any,.any,.any,.any,.any,.any,.any,.any,.any,.any,.any,.any,.any,.any,.any,.any,.any,.any,.any,.any,.any,.any,.any,.any,.any,.any,.any,.any],by omega,?_,j + 1,w + 1,by omega,?_,?_,?_,?_,rfl⟩
            · rw [rangeU,e7]
              repeat (first | exact leEnv_nil | refine leEnv_any _ ?_ | refine leEnv_same _ ?_ | refine leEnv_norm _ ?_)
            · exact (set_get_ne (by omega)).trans (get_app (by rw [← hS4]; exact get_app hT3 _) _)
            · exact set_get (by rw [List.length_append]; have := lt_of_get hU4; omega)
            · exact (set_get_ne (by omega)).trans (get_app (by rw [← hS4]; exact get_app hP3 _) _)
            · rw [← hS4]; exact ex_set (ex_app2 (ex_app2 hex3 _) _) (by omega) _
        obtain rfl : j = head.kids.length := by omega
        have d1 : ((head.kids.length : Int) < (head.kids.length : Int)) = False := eq_false (by omega)
        have hrow : rowRaw k head false r = .agg [.slice .imm 7 ((r.cols.take k).map celSV ++ (List.range head.kids.length).map (intoRaw c head) ++ (r.cols.drop (k + 1)).map celSV),i64 r.pl] := by unfold rowRaw midRaw; rw [hc]; rfl
        have hapA := app58 (n := (r.cols.take k).length + (head.kids.length + (r.cols.drop (k + 1)).length)) (by rw [List.length_take,List.length_drop]; omega)
        have hapB := app55 (n := (leftRaw (rows.take i) k head false).length + 1) (by omega)
        have qU := tokAt_eq (v' := w) hU3
        have qT := tokAt_eq (v' := v) (show (s3.set (s.length + 1) (.tok (w + 1)))[st.length]? = some (.tok v) from (set_get_ne (by omega)).trans hT3)
        simp -implicitDefEqProofs (maxSteps := 2000000) only [↓ops_nil,↓ops_none,↓ops_some,↓kd_eff,↓dr_nil,↓dr_cons,↓d1_none,↓d1_some,↓eff_store,↓eff_box,↓eff_alloc,↓eff_build,↓eff_buildSlice,↓eff_call,↓eff_append,↓eff_copy,↓eff_cap,↓eff_clear,↓eff_make,↓reduceIte,↓c_condI,↓c_seqH,↓c_blockH,↓then_nH,↓then_rH,↓then_eH,↓block_nH,↓block_rH,↓block_eH,go_sem,d1,c1,c2,c3,c4,c6,c7,hgt,rwSV,hwk,hw,qU,qT,Int.toNat_natCast,List.length_map,List.length_range,List.take_length,← List.map_drop]
        refine ⟨hapA,hokA,hapB,b - 1,[.slice m 2 (rows.map rwSV),i64 k,.any,.sc (.bool false),.any,.any,.ref (nodeSV head).cells,.any,.any,.slice (.own st.length (v + 1)) 2 (leftRaw (rows.take (i + 1)) k head false),i64 ((i + 1 : Nat) : Int),.any,.any,.any,.any,.any,.any,.any,.any,.any,.any,.any,.any,.any,.any,.any,.any,.any,.any,.any,.any,.any,.any,.any,.any,.any,.any,.any,.any,.any,.any,.any,.any,.any,.any,.any,.any,.any,.any,.any,.any,.any,.any,.any,.any,.any,.any,.any,.any,.any,.any,.any,.any,.any,.any,.any,.any,.any,.any,.any,.any,.any,.any,.any,.any,.any,.any,.any,.any,.any,.any,.any,.any,.any,.any,.any,.any,.any,.any,.any,.any,.any,.any,.any,.any,.any,.any,.any,.any,.any,.any,.any,.any,.any,.any,.any,.any,.any,.any,.any,.any,.any,.any,.any,.any,.any,.any,.any,.any,.any,.any,.any,.any],by omega,?_,i + 1,v + 1,by omega,set_get (by rw [List.length_set]; exact lt_of_get hT3),ex_set (ex_set hex3 (by omega) _) (Nat.le_refl _) _,rfl⟩
        rw [hstep,hrow,List.append_assoc]
        repeat (first | exact leEnv_nil | refine leEnv_any _ ?_ | refine leEnv_same _ ?_ | refine leEnv_norm _ ?_)
  obtain rfl : i = rows.length := by omega
  have c1 : ((rows.length : Int) < (rows.length : Int)) = False := eq_false (by omega)
  rw [List.take_length]
  simp -implicitDefEqProofs (maxSteps := 2000000) only [↓ops_nil,↓ops_none,↓ops_some,↓kd_eff,↓dr_nil,↓dr_cons,↓d1_none,↓d1_some,↓eff_store,↓eff_box,↓eff_alloc,↓eff_build,↓eff_buildSlice,↓eff_call,↓eff_append,↓eff_copy,↓eff_cap,↓eff_clear,↓eff_make,↓reduceIte,↓c_condI,↓c_seqH,↓c_blockH,↓then_nH,↓then_rH,↓then_eH,↓block_nH,↓block_rH,↓block_eH,go_sem,c1,List.length_map]
  exact ⟨_,left_le rows k head rest _,hex,ids_rws _ .imm (.inl rfl) _,h⟩
end Go.Proofs
