/- slices.Clone of numbers; tree.into; slices.Grow, slices.Concat of columns. -/
import Derived.Test.YtcanmhognofheaaW30
import Derived.Test.YtcanmhognofheaaA9
import Derived.Shelf.Slices.In.Clone
import Derived.Sort.EveryDepth
set_option linter.all false
set_option maxHeartbeats 4000000
set_option linter.unusedSimpArgs false
set_option linter.unusedVariables false
set_option maxRecDepth 8000
namespace Go.Proofs
open Go Go.AL Go.Shelf
def Try.lays15_ren : Go.Shelf.Ren := ⟨fun | 15 => 74 | n => n,fun | 22 => 29 | 3 => 3 | 4 => 4 | n => n,fun | n => n⟩
theorem Try.lays15 : Go.Proofs.Lays2.n15 Try.prog Try.lays15_ren := {
  mixed := by kernel_rfl
  f15 := Try.func74.trans (congrArg some (by kernel_rfl))
  t3 := Try.underlying3
  a3 := Try.isAgg3
  z3 := Try.sizeOf3
  v3 := Try.zeroValue3
  t4 := Try.underlying4
  a4 := Try.isAgg4
  z4 := Try.sizeOf4
  v4 := Try.zeroValue4
  t22 := Try.underlying29
  a22 := Try.isAgg29
  z22 := Try.sizeOf29
  v22 := Try.zeroValue29
  i3 := by kernel_rfl }
theorem cloneI0_c {st : St} (m : AL.Mode) (K : SV → St → Prop) (h : K (.slice (.own st.length 0) 1 []) (st ++ [.tok 0])) : ACalls Try.prog 74 [.slice m 1 []] K st := by
  intro σ w vs hI hR
  obtain ⟨v,rfl,hr⟩ := args_one hR
  generalize hl : ([] : List SV) = l at hr
  cases hr with
  | nil =>
    refine (calls_of_every_depth (P := Try.prog) fun D => AnyS.slices_Clone_int_nil_in Try.lays15 D 0 0 w).mono ?_
    rintro e w' ⟨rfl,rfl⟩
    exact ⟨_,_,_,_,rfl,h,hI.newTok none (fun c hc => by cases hc),.nil _ _ ⟨0,by simp,Nat.le_refl _⟩,Ext.newTok none⟩
  | slice m z l a cap =>
    subst hl
    refine (calls_of_every_depth (P := Try.prog) fun D => AnyS.slices_Clone_int_zero_in Try.lays15 D a cap w).mono ?_
    rintro e w' ⟨v',rfl,⟨_,ho⟩,_,hb⟩
    have hI1 := inv_below hI hb
    have hX1 := ext_below hI hb
    rcases ho with ⟨rfl,_⟩ | ⟨g,cap,cur,rfl,hg,hh,_,_,hc,_⟩
    · exact ⟨_,_,_,_,rfl,h,hI1.newTok none (fun c hc => by cases hc),.nil _ _ ⟨0,by simp,Nat.le_refl _⟩,hX1.trans (Ext.newTok none)⟩
    · have hf := hI.fresh g hg
      refine ⟨_,_,_,σ.setMu st.length (some g),rfl,h,hI1.newTok (some g) (fun c hc => ?_),?_,hX1.trans (Ext.newTok (some g))⟩
      · cases hc
        refine ⟨lt_of_some hh,by rw [hf]; rfl,fun i hi e => ?_⟩
        have := hI.mu_lt hi e
        omega
      · exact .slice _ 1 [] ⟨g,0,none⟩ cap (fun _ _ => default) (Nat.zero_le _) (fun h => absurd rfl h) (fun i hi => by cases hi) (fun i j hi => by cases hi) (fun i j hi => by cases hi)
          ⟨0,by simp,Nat.le_refl _,fun _ => .inr ⟨rfl,by simp [Sig.setMu],by simp only [Sig.setMu,hf]; simp,cur,_,hh,by rw [hc]; simp⟩⟩
theorem cloneI_c {st : St} (m : AL.Mode) {l : List Int} (hl : l.length ≤ 1000000) (K : SV → St → Prop) (h : K (.slice (.own st.length 0) 1 (l.map i64)) (st ++ [.tok 0])) : ACalls Try.prog 74 [.slice m 1 (l.map i64)] K st := by
  cases l with
  | nil => exact cloneI0_c m K h
  | cons a r =>
    refine acalls_go (M := []) Try.func74 rfl Try.results74 Try.ntmps74 ?_
    have hap := app29 (n := (a :: r).length) (by omega)
    simp only [go_sem]
    exact ⟨hap,h⟩
def intoU (c : Cel) (head : Nd) (i : Nat) : Cel := ⟨if looseB c.pat then anyN else c.pat.kids.getD i default,c.path ++ [(i : Int)]⟩
theorem intoL_eq (c : Cel) (head : Nd) : intoL c head = (List.range head.kids.length).map (intoU c head) := rfl
theorem ids_int1 (n : Nat) (x : Int) : Ids n (.slice .full 1 [i64 x]) := ids_i64s n .full (.inr rfl) [x]
theorem ids_cel1 (n : Nat) (x : Cel) : Ids n (.slice .full 7 [celSV x]) := ids_cels n .full (.inr rfl) [x]
theorem rangeU {α : Type} (f : Nat → α) (k : Nat) : (List.range (k + 1)).map f = (List.range k).map f ++ [f k] := by rw [List.range_succ,List.map_append]; rfl
theorem patU_false {c : Cel} {head : Nd} {k : Nat} (hl : looseB c.pat = false) (h : k < c.pat.kids.length) : (intoU c head k).pat = c.pat.kids[k] := by
  unfold intoU; rw [if_neg (by rw [hl]; decide),getd h]
theorem patU_true {c : Cel} {head : Nd} {k : Nat} (hl : looseB c.pat = true) : (intoU c head k).pat = anyN := by
  unfold intoU; rw [if_pos hl]
theorem any_leC : ∀ i,SVle ([i64 24,str ⟨#[]⟩,i64 0,i64 0,.slice .full 0 [],.slice .full 0 []].getD i .any) ((nodeSV anyN).cells.getD i .any)
  | 0 => SVle.refl _
  | 1 => SVle.refl _
  | 2 => SVle.refl _
  | 3 => SVle.refl _
  | 4 => le_nil 0 1
  | 5 => le_nil 0 6
  | i + 6 => SVle.refl _
theorem celU_norm (c : Cel) (head : Nd) (k T : Nat) : celSV (intoU c head k) = norm (.agg (List.take 6 ((nodeSV (intoU c head k).pat).cells ++ [SV.slice .full 0 []]) ++ SV.slice (.own T 1) 1 (c.path.map i64 ++ [i64 k]) :: List.drop 7 ((nodeSV (intoU c head k).pat).cells ++ [SV.slice .full 0 []]))) := by
  rw [cells_node]
  have : (intoU c head k).path = c.path ++ [(k : Int)] := rfl
  simp only [celSV,this,List.map_append]
  rfl
theorem into_c (c : Cel) (head : Nd) (hk : head.kids.length ≤ 1000) (hp : c.path.length ≤ 1000) (hkk : looseB c.pat = false → sameB c.pat head = true → head.kids.length ≤ c.pat.kids.length) (K : SV → St → Prop) (st : St)
    (h : K (.tuple [.slice .imm 7 (if looseB c.pat || sameB c.pat head then (intoL c head).map celSV else []),.sc (.bool (looseB c.pat || sameB c.pat head))]) st) : ACalls Try.prog 57 [celSV c,nodeSV head] K st := by
  refine acalls_goV [] Try.func57 rfl Try.results57 Try.ntmps57 ?_
  obtain ⟨lo,hlo⟩ : ∃ lo,looseB c.pat = lo := ⟨_,rfl⟩
  obtain ⟨sa,hsa⟩ : ∃ sa,sameB c.pat head = sa := ⟨_,rfl⟩
  rcases (show (lo = false ∧ sa = false) ∨ (lo || sa) = true by cases lo <;> cases sa <;> simp) with ⟨rfl,rfl⟩ | hok
  · rw [hlo,hsa] at h
    simp -implicitDefEqProofs (maxSteps := 2000000) only [↓ops_nil,↓ops_none,↓ops_some,↓kd_eff,↓dr_nil,↓dr_cons,↓d1_none,↓d1_some,↓eff_store,↓eff_box,↓eff_alloc,↓eff_build,↓eff_buildSlice,↓eff_call,↓eff_append,↓eff_copy,↓eff_cap,↓eff_clear,↓eff_make,↓reduceIte,↓c_condI,↓c_seqH,↓c_blockH,↓then_nH,↓then_rH,↓then_eH,↓block_nH,↓block_rH,↓block_eH,go_sem,celSV,agg_nd]
    refine loose23_c _ _ _ ?_
    rw [hlo]
    simp -implicitDefEqProofs (maxSteps := 2000000) only [↓ops_nil,↓ops_none,↓ops_some,↓kd_eff,↓dr_nil,↓dr_cons,↓d1_none,↓d1_some,↓eff_store,↓eff_box,↓eff_alloc,↓eff_build,↓eff_buildSlice,↓eff_call,↓eff_append,↓eff_copy,↓eff_cap,↓eff_clear,↓eff_make,↓reduceIte,↓c_condI,↓c_seqH,↓c_blockH,↓then_nH,↓then_rH,↓then_eH,↓block_nH,↓block_rH,↓block_eH,go_sem,celSV,agg_nd]
    refine same53_c _ _ _ _ ?_
    rw [hsa]
    simp -implicitDefEqProofs (maxSteps := 2000000) only [↓ops_nil,↓ops_none,↓ops_some,↓kd_eff,↓dr_nil,↓dr_cons,↓d1_none,↓d1_some,↓eff_store,↓eff_box,↓eff_alloc,↓eff_build,↓eff_buildSlice,↓eff_call,↓eff_append,↓eff_copy,↓eff_cap,↓eff_clear,↓eff_make,↓reduceIte,↓c_condI,↓c_seqH,↓c_blockH,↓then_nH,↓then_rH,↓then_eH,↓block_nH,↓block_rH,↓block_eH,go_sem]
    refine ⟨.tuple [.slice .imm 7 [],.sc (.bool false)],SVle.tuple (.cons (le_nil _ _) (.cons (SVle.refl _) .nil)),⟨[],by simp⟩,ids_tuple2 (ids_cels _ .imm (.inl rfl) []) (.sc _),h⟩
  · rw [hlo,hsa,hok] at h
    simp only [if_true] at h
    rw [intoL_eq] at h
    have hkk2 : lo = false → head.kids.length ≤ c.pat.kids.length := fun e => hkk (by rw [hlo,e]) (by rw [hsa]; subst e; simpa using hok)
    clear hkk
    have hap29 := app29 (n := c.path.length + 1) (by omega)
    apply use_cut
    case h =>
      cases lo with
      | false =>
        have : sa = true := by simpa using hok
        subst this
        intro g
        simp -implicitDefEqProofs (maxSteps := 2000000) only [↓ops_nil,↓ops_none,↓ops_some,↓kd_eff,↓dr_nil,↓dr_cons,↓d1_none,↓d1_some,↓eff_store,↓eff_box,↓eff_alloc,↓eff_build,↓eff_buildSlice,↓eff_call,↓eff_append,↓eff_copy,↓eff_cap,↓eff_clear,↓eff_make,↓reduceIte,↓c_condI,↓c_seqH,↓c_blockH,↓then_nH,↓then_rH,↓then_eH,↓block_nH,↓block_rH,↓block_eH,go_sem,celSV,agg_nd]
        refine loose23_c _ _ _ ?_
        rw [hlo]
        simp -implicitDefEqProofs (maxSteps := 2000000) only [↓ops_nil,↓ops_none,↓ops_some,↓kd_eff,↓dr_nil,↓dr_cons,↓d1_none,↓d1_some,↓eff_store,↓eff_box,↓eff_alloc,↓eff_build,↓eff_buildSlice,↓eff_call,↓eff_append,↓eff_copy,↓eff_cap,↓eff_clear,↓eff_make,↓reduceIte,↓c_condI,↓c_seqH,↓c_blockH,↓then_nH,↓then_rH,↓then_eH,↓block_nH,↓block_rH,↓block_eH,go_sem,celSV,agg_nd]
        refine same53_c _ _ _ _ ?_
        rw [hsa]
        simp -implicitDefEqProofs (maxSteps := 2000000) only [↓ops_nil,↓ops_none,↓ops_some,↓kd_eff,↓dr_nil,↓dr_cons,↓d1_none,↓d1_some,↓eff_store,↓eff_box,↓eff_alloc,↓eff_build,↓eff_buildSlice,↓eff_call,↓eff_append,↓eff_copy,↓eff_cap,↓eff_clear,↓eff_make,↓reduceIte,↓c_condI,↓c_seqH,↓c_blockH,↓then_nH,↓then_rH,↓then_eH,↓block_nH,↓block_rH,↓block_eH,go_sem,List.length_map]
        refine awp_own 6 7 0 rfl ?_
        refine awp_weaken (b := [.any,.any,.ref (celC c),.ref (nodeSV head).cells,.any,.any,.slice (.own st.length 0) 7 [],.any,.any,.any,.any,.any,.any,.any,.any,.any,.any,.any,.any,.any,.any,.any,i64 head.kids.length,i64 0,.any,.any,.any,.any,.any,.any,.any,.any,.any,.any,.any,.any,.any,.any,.any,.any,.any,.any,.any,.any,.any,.any,.any,.any,.any,.any]) ?_ g
        simp only [List.set_cons_succ,List.set_cons_zero]
        repeat (first | exact leEnv_nil | refine leEnv_any _ ?_ | refine leEnv_same _ ?_ | refine leEnv_norm _ ?_)
      | true =>
        intro g
        simp -implicitDefEqProofs (maxSteps := 2000000) only [↓ops_nil,↓ops_none,↓ops_some,↓kd_eff,↓dr_nil,↓dr_cons,↓d1_none,↓d1_some,↓eff_store,↓eff_box,↓eff_alloc,↓eff_build,↓eff_buildSlice,↓eff_call,↓eff_append,↓eff_copy,↓eff_cap,↓eff_clear,↓eff_make,↓reduceIte,↓c_condI,↓c_seqH,↓c_blockH,↓then_nH,↓then_rH,↓then_eH,↓block_nH,↓block_rH,↓block_eH,go_sem,celSV,agg_nd]
        refine loose23_c _ _ _ ?_
        rw [hlo]
        simp -implicitDefEqProofs (maxSteps := 2000000) only [↓ops_nil,↓ops_none,↓ops_some,↓kd_eff,↓dr_nil,↓dr_cons,↓d1_none,↓d1_some,↓eff_store,↓eff_box,↓eff_alloc,↓eff_build,↓eff_buildSlice,↓eff_call,↓eff_append,↓eff_copy,↓eff_cap,↓eff_clear,↓eff_make,↓reduceIte,↓c_condI,↓c_seqH,↓c_blockH,↓then_nH,↓then_rH,↓then_eH,↓block_nH,↓block_rH,↓block_eH,go_sem,List.length_map]
        refine awp_own 6 7 0 rfl ?_
        refine awp_weaken (b := [.any,.any,.ref (celC c),.ref (nodeSV head).cells,.any,.any,.slice (.own st.length 0) 7 [],.any,.any,.any,.any,.any,.any,.any,.any,.any,.any,.any,.any,.any,.any,.any,i64 head.kids.length,i64 0,.any,.any,.any,.any,.any,.any,.any,.any,.any,.any,.any,.any,.any,.any,.any,.any,.any,.any,.any,.any,.any,.any,.any,.any,.any,.any]) ?_ g
        simp only [List.set_cons_succ,List.set_cons_zero]
        repeat (first | exact leEnv_nil | refine leEnv_any _ ?_ | refine leEnv_same _ ?_ | refine leEnv_norm _ ?_)
    case hz =>
      refine awp_rounds [] (fun b e s => ∃ k v,k + b = head.kids.length ∧ s[st.length]? = some (.tok v) ∧ (∃ ex,s = st ++ ex) ∧ e = [.any,.any,.ref (celC c),.ref (nodeSV head).cells,.any,.any,.slice (.own st.length v) 7 (((List.range k).map (intoU c head)).map celSV),.any,.any,.any,.any,.any,.any,.any,.any,.any,.any,.any,.any,.any,.any,.any,i64 head.kids.length,i64 k,.any,.any,.any,.any,.any,.any,.any,.any,.any,.any,.any,.any,.any,.any,.any,.any,.any,.any,.any,.any,.any,.any,.any,.any,.any,.any]) (n := head.kids.length) ?_ ⟨0,0,by omega,by simp,⟨_,rfl⟩,rfl⟩ ?_
      · repeat (first | exact leEnv_nil | refine leEnv_any _ ?_ | refine leEnv_same _ ?_ | refine leEnv_norm _ ?_)
      rintro b e s ⟨k,v,hkb,hT,hex,rfl⟩
      by_cases hlt : k < head.kids.length
      · have c1 : (k : Int) < (head.kids.length : Int) := by omega
        have hw := wrap1 (k := k) (by omega)
        have hTl := lt_of_get hT
        have hap47 := app47 (n := k + 1) (by omega)
        have hsz : (((List.range k).map (intoU c head)).map celSV).length = k := by simp
        apply use_cut
        case h =>
          cases lo with
          | false =>
            have hkl := hkk2 rfl
            have c2 : (k : Int) < (c.pat.kids.length : Int) := by omega
            have c3 : (0 : Int) ≤ (k : Int) := by omega
            have hgt := getm nodeSV (l := c.pat.kids) (i := k) (by omega)
            have hpf := patU_false (head := head) (k := k) hlo (by omega)
            intro g
            simp -implicitDefEqProofs (maxSteps := 2000000) only [↓ops_nil,↓ops_none,↓ops_some,↓kd_eff,↓dr_nil,↓dr_cons,↓d1_none,↓d1_some,↓eff_store,↓eff_box,↓eff_alloc,↓eff_build,↓eff_buildSlice,↓eff_call,↓eff_append,↓eff_copy,↓eff_cap,↓eff_clear,↓eff_make,↓reduceIte,↓c_condI,↓c_seqH,↓c_blockH,↓then_nH,↓then_rH,↓then_eH,↓block_nH,↓block_rH,↓block_eH,go_sem,c1,celSV,agg_nd]
            refine loose23_c _ _ _ ?_
            rw [hlo]
            simp -implicitDefEqProofs (maxSteps := 2000000) only [↓ops_nil,↓ops_none,↓ops_some,↓kd_eff,↓dr_nil,↓dr_cons,↓d1_none,↓d1_some,↓eff_store,↓eff_box,↓eff_alloc,↓eff_build,↓eff_buildSlice,↓eff_call,↓eff_append,↓eff_copy,↓eff_cap,↓eff_clear,↓eff_make,↓reduceIte,↓c_condI,↓c_seqH,↓c_blockH,↓then_nH,↓then_rH,↓then_eH,↓block_nH,↓block_rH,↓block_eH,go_sem,c1,c2,c3,hgt,celSV,cell_nd,agg_nd,List.length_map]
            rw [← hpf]
            refine awp_weaken (b := [.any,.any,.ref (celC c),.ref (nodeSV head).cells,.any,.any,.slice (.own st.length v) 7 (((List.range k).map (intoU c head)).map celSV),i64 k,.ptr s.length 0,.any,.any,.any,.any,.any,.any,.any,.any,.any,.any,.any,.any,.any,i64 head.kids.length,i64 k,.any,.any,.any,.any,.any,.any,.any,.any,.any,.any,.any,.any,.any,.any,.any,.any,.any,.any,.any,.any,.any,.any,.any,.any,.any,.any]) ?_ g
            repeat (first | exact leEnv_nil | refine leEnv_any _ ?_ | refine leEnv_same _ ?_ | refine leEnv_norm _ ?_)
          | true =>
            have hpt := patU_true (head := head) (k := k) hlo
            intro g
            simp -implicitDefEqProofs (maxSteps := 2000000) only [↓ops_nil,↓ops_none,↓ops_some,↓kd_eff,↓dr_nil,↓dr_cons,↓d1_none,↓d1_some,↓eff_store,↓eff_box,↓eff_alloc,↓eff_build,↓eff_buildSlice,↓eff_call,↓eff_append,↓eff_copy,↓eff_cap,↓eff_clear,↓eff_make,↓reduceIte,↓c_condI,↓c_seqH,↓c_blockH,↓then_nH,↓then_rH,↓then_eH,↓block_nH,↓block_rH,↓block_eH,go_sem,c1,celSV,agg_nd]
            refine loose23_c _ _ _ ?_
            rw [hlo]
            simp -implicitDefEqProofs (maxSteps := 2000000) only [↓ops_nil,↓ops_none,↓ops_some,↓kd_eff,↓dr_nil,↓dr_cons,↓d1_none,↓d1_some,↓eff_store,↓eff_box,↓eff_alloc,↓eff_build,↓eff_buildSlice,↓eff_call,↓eff_append,↓eff_copy,↓eff_cap,↓eff_clear,↓eff_make,↓reduceIte,↓c_condI,↓c_seqH,↓c_blockH,↓then_nH,↓then_rH,↓then_eH,↓block_nH,↓block_rH,↓block_eH,go_sem,c1,List.length_map]
            refine awp_leC s.length (l := [i64 24,str ⟨#[]⟩,i64 0,i64 0,.slice .full 0 [],.slice .full 0 []]) (l' := (nodeSV anyN).cells) (by simp) rfl any_leC ?_
            rw [← hpt,List.set_append_right _ _ (Nat.le_refl _),Nat.sub_self,List.set_cons_zero]
            refine awp_weaken (b := [.any,.any,.ref (celC c),.ref (nodeSV head).cells,.any,.any,.slice (.own st.length v) 7 (((List.range k).map (intoU c head)).map celSV),i64 k,.ptr s.length 0,.any,.any,.any,.any,.any,.any,.any,.any,.any,.any,.any,.any,.any,i64 head.kids.length,i64 k,.any,.any,.any,.any,.any,.any,.any,.any,.any,.any,.any,.any,.any,.any,.any,.any,.any,.any,.any,.any,.any,.any,.any,.any,.any,.any]) ?_ g
            repeat (first | exact leEnv_nil | refine leEnv_any _ ?_ | refine leEnv_same _ ?_ | refine leEnv_norm _ ?_)
        case hz =>
          obtain ⟨S1,hS1⟩ : ∃ S1,s ++ [Ob.cells (nodeSV (intoU c head k).pat).cells] = S1 := ⟨_,rfl⟩
          have g8 : S1[s.length]? = some (.cells (nodeSV (intoU c head k).pat).cells) := by rw [← hS1]; simp
          have gT : S1[st.length]? = some (.tok v) := by rw [← hS1]; exact get_app hT _
          have r8 := cells_facts g8
          rw [hS1]
          refine awp_drawT [] [2,2,2,2,3,2,2,3,2,2,3,2] (fun x => x[s.length]? = some (.cells (nodeSV (intoU c head k).pat).cells)) Try.mixed rfl g8 ?_
          simp -implicitDefEqProofs (maxSteps := 2000000) only [↓ops_nil,↓ops_none,↓ops_some,↓kd_eff,↓dr_nil,↓dr_cons,↓d1_none,↓d1_some,↓eff_store,↓eff_box,↓eff_alloc,↓eff_build,↓eff_buildSlice,↓eff_call,↓eff_append,↓eff_copy,↓eff_cap,↓eff_clear,↓eff_make,↓reduceIte,↓c_condI,↓c_seqH,↓c_blockH,↓then_nH,↓then_rH,↓then_eH,↓block_nH,↓block_rH,↓block_eH,go_sem,drawU_n,drawU_0,drawU_1,drawU_2,drawU_3,isStore_s,r8.1,r8.2.1,r8.2.2,cell_nd]
          refine ⟨fun z hz => ?_,.slice (.own S1.length 0) 1 (c.path.map i64),S1 ++ [.tok 0],cloneI_c _ (by omega) _ ⟨rfl,rfl⟩,get_app g8 _,?_⟩
          · have f := cells_facts hz
            exact ⟨⟨by rw [f.2.1]; trivial,by rw [f.2.2,cell_nd]; rfl⟩,by rw [f.2.2,cell_nd]; rfl⟩
          rw [dk_eff]
          refine ⟨.slice .full 1 [i64 k],?_,?_⟩
          · simp -implicitDefEqProofs (maxSteps := 2000000) only [↓ops_nil,↓ops_none,↓ops_some,↓kd_eff,↓dr_nil,↓dr_cons,↓d1_none,↓d1_some,↓eff_store,↓eff_box,↓eff_alloc,↓eff_build,↓eff_buildSlice,↓eff_call,↓eff_append,↓eff_copy,↓eff_cap,↓eff_clear,↓eff_make,↓reduceIte,↓c_condI,↓c_seqH,↓c_blockH,↓then_nH,↓then_rH,↓then_eH,↓block_nH,↓block_rH,↓block_eH,go_sem]
            exact ⟨⟨[],by simp⟩,ids_int1 _ _,.inl rfl⟩
          refine ⟨fun z hz => ?_,?_⟩
          · rw [dk_eff]
            refine ⟨.slice .full 1 [i64 k],?_,rfl⟩
            simp -implicitDefEqProofs (maxSteps := 2000000) only [↓ops_nil,↓ops_none,↓ops_some,↓kd_eff,↓dr_nil,↓dr_cons,↓d1_none,↓d1_some,↓eff_store,↓eff_box,↓eff_alloc,↓eff_build,↓eff_buildSlice,↓eff_call,↓eff_append,↓eff_copy,↓eff_cap,↓eff_clear,↓eff_make,↓reduceIte,↓c_condI,↓c_seqH,↓c_blockH,↓then_nH,↓then_rH,↓then_eH,↓block_nH,↓block_rH,↓block_eH,go_sem]
            exact ⟨⟨[],by simp⟩,ids_int1 _ _,.inl rfl⟩
          simp -implicitDefEqProofs (maxSteps := 2000000) only [↓ops_nil,↓ops_none,↓ops_some,↓kd_eff,↓dr_nil,↓dr_cons,↓d1_none,↓d1_some,↓eff_store,↓eff_box,↓eff_alloc,↓eff_build,↓eff_buildSlice,↓eff_call,↓eff_append,↓eff_copy,↓eff_cap,↓eff_clear,↓eff_make,↓reduceIte,↓c_condI,↓c_seqH,↓c_blockH,↓then_nH,↓then_rH,↓then_eH,↓block_nH,↓block_rH,↓block_eH,go_sem,drawU_n,drawU_0,drawU_1,drawU_2,drawU_3,isStore_s]
          refine ⟨_,_,⟨hap29,rfl,rfl⟩,get_app g8 _,?_⟩
          rw [dk_eff]
          refine ⟨celSV (intoU c head k),?_,?_⟩
          · simp -implicitDefEqProofs (maxSteps := 2000000) only [↓ops_nil,↓ops_none,↓ops_some,↓kd_eff,↓dr_nil,↓dr_cons,↓d1_none,↓d1_some,↓eff_store,↓eff_box,↓eff_alloc,↓eff_build,↓eff_buildSlice,↓eff_call,↓eff_append,↓eff_copy,↓eff_cap,↓eff_clear,↓eff_make,↓reduceIte,↓c_condI,↓c_seqH,↓c_blockH,↓then_nH,↓then_rH,↓then_eH,↓block_nH,↓block_rH,↓block_eH,go_sem]
            exact ⟨⟨[],by simp⟩,ids_cel _ _,.inr (celU_norm c head k _)⟩
          refine ⟨fun z hz => ?_,?_⟩
          · rw [dk_eff]
            refine ⟨celSV (intoU c head k),?_,rfl⟩
            simp -implicitDefEqProofs (maxSteps := 2000000) only [↓ops_nil,↓ops_none,↓ops_some,↓kd_eff,↓dr_nil,↓dr_cons,↓d1_none,↓d1_some,↓eff_store,↓eff_box,↓eff_alloc,↓eff_build,↓eff_buildSlice,↓eff_call,↓eff_append,↓eff_copy,↓eff_cap,↓eff_clear,↓eff_make,↓reduceIte,↓c_condI,↓c_seqH,↓c_blockH,↓then_nH,↓then_rH,↓then_eH,↓block_nH,↓block_rH,↓block_eH,go_sem]
            exact ⟨⟨[],by simp⟩,ids_cel _ _,.inr (celU_norm c head k _)⟩
          rw [dk_eff]
          refine ⟨.slice .full 7 [celSV (intoU c head k)],?_,?_⟩
          · simp -implicitDefEqProofs (maxSteps := 2000000) only [↓ops_nil,↓ops_none,↓ops_some,↓kd_eff,↓dr_nil,↓dr_cons,↓d1_none,↓d1_some,↓eff_store,↓eff_box,↓eff_alloc,↓eff_build,↓eff_buildSlice,↓eff_call,↓eff_append,↓eff_copy,↓eff_cap,↓eff_clear,↓eff_make,↓reduceIte,↓c_condI,↓c_seqH,↓c_blockH,↓then_nH,↓then_rH,↓then_eH,↓block_nH,↓block_rH,↓block_eH,go_sem,cells_cel,norm_cel,shape_cel]
            exact ⟨⟨[],by simp⟩,ids_cel1 _ _,.inl rfl⟩
          refine ⟨fun z hz => ?_,?_⟩
          · rw [dk_eff]
            refine ⟨.slice .full 7 [celSV (intoU c head k)],?_,rfl⟩
            simp -implicitDefEqProofs (maxSteps := 2000000) only [↓ops_nil,↓ops_none,↓ops_some,↓kd_eff,↓dr_nil,↓dr_cons,↓d1_none,↓d1_some,↓eff_store,↓eff_box,↓eff_alloc,↓eff_build,↓eff_buildSlice,↓eff_call,↓eff_append,↓eff_copy,↓eff_cap,↓eff_clear,↓eff_make,↓reduceIte,↓c_condI,↓c_seqH,↓c_blockH,↓then_nH,↓then_rH,↓then_eH,↓block_nH,↓block_rH,↓block_eH,go_sem,cells_cel,norm_cel,shape_cel]
            exact ⟨⟨[],by simp⟩,ids_cel1 _ _,.inl rfl⟩
          have qt := tokAt_eq (v' := v) (get_app gT [Ob.tok 1])
          simp -implicitDefEqProofs (maxSteps := 2000000) only [↓ops_nil,↓ops_none,↓ops_some,↓kd_eff,↓dr_nil,↓dr_cons,↓d1_none,↓d1_some,↓eff_store,↓eff_box,↓eff_alloc,↓eff_build,↓eff_buildSlice,↓eff_call,↓eff_append,↓eff_copy,↓eff_cap,↓eff_clear,↓eff_make,↓reduceIte,↓c_condI,↓c_seqH,↓c_blockH,↓then_nH,↓then_rH,↓then_eH,↓block_nH,↓block_rH,↓block_eH,go_sem,drawU_n,drawU_0,drawU_1,drawU_2,drawU_3,isStore_s,qt,hsz]
          refine ⟨_,_,⟨hap47,by rw [cells_cel]; rfl,rfl,rfl⟩,?_,?_⟩
          · rw [set_get_ne (by omega)]; exact get_app g8 _
          simp -implicitDefEqProofs (maxSteps := 2000000) only [↓ops_nil,↓ops_none,↓ops_some,↓kd_eff,↓dr_nil,↓dr_cons,↓d1_none,↓d1_some,↓eff_store,↓eff_box,↓eff_alloc,↓eff_build,↓eff_buildSlice,↓eff_call,↓eff_append,↓eff_copy,↓eff_cap,↓eff_clear,↓eff_make,↓reduceIte,↓c_condI,↓c_seqH,↓c_blockH,↓then_nH,↓then_rH,↓then_eH,↓block_nH,↓block_rH,↓block_eH,go_sem,drawU_n,drawU_0,drawU_1,drawU_2,drawU_3,isStore_s,hw]
          obtain ⟨ex0,rfl⟩ := hex
          have e9 : (((List.range (k + 1)).map (intoU c head)).map celSV) = ((List.range k).map (intoU c head)).map celSV ++ [celSV (intoU c head k)] := by
            rw [rangeU,List.map_append]; rfl
          rw [← e9]
          refine ⟨b - 1,[.any,.any,.ref (celC c),.ref (nodeSV head).cells,.any,.any,.slice (.own st.length (v + 1)) 7 (((List.range (k + 1)).map (intoU c head)).map celSV),.any,.any,.any,.any,.any,.any,.any,.any,.any,.any,.any,.any,.any,.any,.any,i64 head.kids.length,i64 ((k + 1 : Nat) : Int),.any,.any,.any,.any,.any,.any,.any,.any,.any,.any,.any,.any,.any,.any,.any,.any,.any,.any,.any,.any,.any,.any,.any,.any,.any,.any],by omega,?_,k + 1,v + 1,by omega,set_get (by rw [List.length_append]; exact Nat.lt_of_lt_of_le (lt_of_get gT) (Nat.le_add_right _ _)),?_,rfl⟩
          · repeat (first | exact leEnv_nil | refine leEnv_any _ ?_ | refine leEnv_same _ ?_ | refine leEnv_norm _ ?_)
          · rw [← hS1]
            exact ex_set (ex_app2 (ex_app2 ⟨ex0,rfl⟩ _) _) (Nat.le_refl _) _
      · obtain rfl : k = head.kids.length := by omega
        have c1 : ((head.kids.length : Int) < (head.kids.length : Int)) = False := eq_false (by omega)
        simp -implicitDefEqProofs (maxSteps := 2000000) only [↓ops_nil,↓ops_none,↓ops_some,↓kd_eff,↓dr_nil,↓dr_cons,↓d1_none,↓d1_some,↓eff_store,↓eff_box,↓eff_alloc,↓eff_build,↓eff_buildSlice,↓eff_call,↓eff_append,↓eff_copy,↓eff_cap,↓eff_clear,↓eff_make,↓reduceIte,↓c_condI,↓c_seqH,↓c_blockH,↓then_nH,↓then_rH,↓then_eH,↓block_nH,↓block_rH,↓block_eH,go_sem,c1]
        exact ⟨.tuple [.slice .imm 7 (((List.range head.kids.length).map (intoU c head)).map celSV),.sc (.bool true)],SVle.tuple (.cons (le_imm _ _ _) (.cons (SVle.refl _) .nil)),hex,ids_tuple2 (ids_cels _ .imm (.inl rfl) _) (.sc _),h⟩
end Go.Proofs
