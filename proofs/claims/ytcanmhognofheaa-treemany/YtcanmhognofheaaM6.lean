/- selvageref09.Size. -/
import Derived.Test.YtcanmhognofheaaW42
set_option linter.all false
set_option maxHeartbeats 8000000
set_option linter.unusedSimpArgs false
set_option linter.unusedVariables false
set_option maxRecDepth 8000
namespace Go.Proofs
open Go Go.AL
theorem sum_take (l : List Nat) (k : Nat) : (l.take k).sum ≤ l.sum := by
  conv => rhs; rw [← List.take_append_drop k l]
  rw [List.sum_append]; omega
theorem szT_pos (d : Nat) (p : Nd) : 0 < szT (d + 1) p := by rw [szT]; omega
def SizesTo (d : Nat) : Prop := ∀ p : Nd,okP eqsS d p = true → szT d p ≤ 30 → ∀ (K : SV → St → Prop) (st : St),K (i64 (szT d p)) st → ACalls Try.prog 29 [.slice .imm 5 (consL.map conSV),nodeSV p] K st
theorem size_step (d : Nat) (ih : SizesTo d) : SizesTo (d + 1) := by
  intro p hok hsz K st h
  obtain ⟨hnm,hnu,hc⟩ := okP_cases hok
  have n1 : ((0 : Nat) : Int) = 0 := rfl
  have n2 : ¬ (0 : Int) < 0 := by omega
  have n3 : ((0 : Int) != 0) = false := rfl
  refine acalls_go_pure [] Try.func29 rfl Try.results29 Try.ntmps29 ?_
  rcases hc with ⟨hk,htx,hkd⟩ | ⟨hk,c,hf,har,hkids⟩
  · have e1 : szT (d + 1) p = 1 := by rw [szT,hkd]; rfl
    rw [e1] at h
    have k5 : ((24 : Int) != 5) = true := rfl
    have k1 : ((24 : Int) != 1) = true := rfl
    have k4 : ((24 : Int) != 4) = true := rfl
    have k24 : ((24 : Int) == 24) = true := rfl
    have t0 : (([] : List UInt8) != []) = false := rfl
    simp -implicitDefEqProofs (maxSteps := 2000000) only [↓ops_nil,↓ops_none,↓ops_some,↓kd_eff,↓dr_nil,↓dr_cons,↓d1_none,↓d1_some,↓eff_store,↓eff_box,↓eff_alloc,↓eff_build,↓eff_buildSlice,↓eff_call,↓eff_append,↓eff_copy,↓eff_cap,↓eff_clear,↓eff_make,↓reduceIte,↓c_condI,↓c_seqH,↓c_blockH,↓then_nH,↓then_rH,↓then_eH,↓block_nH,↓block_rH,↓block_eH,go_sem,hk,hnm,hnu,hkd,htx,ByteArray.toList_eq,List.map_nil,List.length_nil,n1,n2,n3,k5,k1,k4,k24,t0]
    exact fin_sc h
  · have hsome : (eqsS.fc p.text).isSome = true := by rw [hf]; rfl
    obtain ⟨kx,hkx,hidx,hget⟩ := find_cn hsome
    have hcn : cnOf eqsS p = c := by unfold cnOf; rw [hf]; rfl
    have hgx := getm conSV hkx
    rw [hget,hcn] at hgx
    have ckx : (kx : Int) < (consL.length : Int) := by omega
    have ckx0 : (0 : Int) ≤ (kx : Int) := by omega
    have ckx1 : ¬ (kx : Int) < 0 := by omega
    have hfindx : ∀ (K : SV → St → Prop) (st : St),K (i64 kx) st → ACalls Try.prog 33 [.slice .imm 5 (consL.map conSV),str p.text] K st := fun K st hK => find33_c .imm consL p.text (by decide) K st (by rw [hidx]; exact hK)
    have k5 : ((5 : Int) != 5) = false := rfl
    have k1 : ((5 : Int) != 1) = true := rfl
    have k11 : ((5 : Int) == 1) = false := rfl
    have k4 : ((5 : Int) == 4) = false := rfl
    have k24 : ((5 : Int) == 24) = false := rfl
    have har2 : ((c.arity) != (p.kids.length : Int)) = false := by rw [har]; simp
    have hsz2 : szT (d + 1) p = 1 + (p.kids.map (szT d)).sum := by rw [szT]
    have hkl : p.kids.length ≤ 30 := by
      have : p.kids.length ≤ (p.kids.map (szT d)).sum := by
        have hpos : ∀ q ∈ p.kids,1 ≤ szT d q := fun q hq => by
          have := hkids q hq
          cases d with
          | zero => cases this
          | succ d => exact szT_pos d q
        generalize p.kids = l at hpos
        induction l with
        | nil => simp
        | cons a r ih2 =>
          have h1 := hpos a (List.mem_cons_self ..)
          have h2 := ih2 fun q hq => hpos q (List.mem_cons_of_mem _ hq)
          simp only [List.map_cons,List.sum_cons,List.length_cons]; omega
      omega
    obtain ⟨tb,htb⟩ : ∃ tb,(p.text.data.toList != (⟨#[]⟩ : ByteArray).data.toList) = tb := ⟨_,rfl⟩
    apply use_cut
    case h =>
      cases tb with
      | true =>
        intro g
        simp -implicitDefEqProofs (maxSteps := 2000000) only [↓ops_nil,↓ops_none,↓ops_some,↓kd_eff,↓dr_nil,↓dr_cons,↓d1_none,↓d1_some,↓eff_store,↓eff_box,↓eff_alloc,↓eff_build,↓eff_buildSlice,↓eff_call,↓eff_append,↓eff_copy,↓eff_cap,↓eff_clear,↓eff_make,↓reduceIte,↓c_condI,↓c_seqH,↓c_blockH,↓then_nH,↓then_rH,↓then_eH,↓block_nH,↓block_rH,↓block_eH,go_sem,hk,hnm,hnu,htb,ByteArray.toList_eq,List.map_nil,List.length_nil,n1,n2,n3,k5,k1,k11,k4,k24]
        refine hfindx _ _ ?_
        simp -implicitDefEqProofs (maxSteps := 2000000) only [↓ops_nil,↓ops_none,↓ops_some,↓kd_eff,↓dr_nil,↓dr_cons,↓d1_none,↓d1_some,↓eff_store,↓eff_box,↓eff_alloc,↓eff_build,↓eff_buildSlice,↓eff_call,↓eff_append,↓eff_copy,↓eff_cap,↓eff_clear,↓eff_make,↓reduceIte,↓c_condI,↓c_seqH,↓c_blockH,↓then_nH,↓then_rH,↓then_eH,↓block_nH,↓block_rH,↓block_eH,go_sem]
        refine awp_drawH [] Try.mixed rfl fun R hR => ?_
        simp -implicitDefEqProofs (maxSteps := 2000000) only [↓ops_nil,↓ops_none,↓ops_some,↓kd_eff,↓dr_nil,↓dr_cons,↓d1_none,↓d1_some,↓eff_store,↓eff_box,↓eff_alloc,↓eff_build,↓eff_buildSlice,↓eff_call,↓eff_append,↓eff_copy,↓eff_cap,↓eff_clear,↓eff_make,↓reduceIte,↓c_condI,↓c_seqH,↓c_blockH,↓then_nH,↓then_rH,↓then_eH,↓block_nH,↓block_rH,↓block_eH,go_sem,hk,k5,ckx,ckx0,ckx1,hgx,conSV,har2,List.length_map]
        rw [hR]
        simp -implicitDefEqProofs (maxSteps := 2000000) only [↓ops_nil,↓ops_none,↓ops_some,↓kd_eff,↓dr_nil,↓dr_cons,↓d1_none,↓d1_some,↓eff_store,↓eff_box,↓eff_alloc,↓eff_build,↓eff_buildSlice,↓eff_call,↓eff_append,↓eff_copy,↓eff_cap,↓eff_clear,↓eff_make,↓reduceIte,↓c_condI,↓c_seqH,↓c_blockH,↓then_nH,↓then_rH,↓then_eH,↓block_nH,↓block_rH,↓block_eH,go_sem]
        refine awp_weaken (b := [.slice .imm 5 (consL.map conSV),.any,.any,.ref (nodeSV p).cells,.any,.any,i64 1,i64 0,.any,.any,.any,.any,.any,.any,.any,.any,.any,.any,.any,.any,.any,.any,.any,.any,.any,.any,.any,.any,.any,.any,.any,.any,.any,.any,.any,.any,.any,.any,.any,.any,.any,.any,.any,.any,.any,.any,.any,.any,.any,.any,.any,.any,.any,.any,.any,.any,.any,.any,.any,.any,.any,.any,.any,.any,.any,.any,.any,.any,.any,.any,.any,.any,.any,.any,.any,.any,.any,.any,.any,.any,.any,.any,.any,.any,.any,.any,.any,.any,.any,.any,.any,.any,.any,.any,.any,.any,.any,.any,.any,.any,.any,.any,.any,.any,.any,.any,.any,.any,.any,.any,.any,.any,.any]) ?_ g
        repeat (first | exact leEnv_nil | refine leEnv_any _ ?_ | refine leEnv_same _ ?_ | refine leEnv_norm _ ?_)
      | false =>
        intro g
        simp -implicitDefEqProofs (maxSteps := 2000000) only [↓ops_nil,↓ops_none,↓ops_some,↓kd_eff,↓dr_nil,↓dr_cons,↓d1_none,↓d1_some,↓eff_store,↓eff_box,↓eff_alloc,↓eff_build,↓eff_buildSlice,↓eff_call,↓eff_append,↓eff_copy,↓eff_cap,↓eff_clear,↓eff_make,↓reduceIte,↓c_condI,↓c_seqH,↓c_blockH,↓then_nH,↓then_rH,↓then_eH,↓block_nH,↓block_rH,↓block_eH,go_sem,hk,hnm,hnu,htb,ByteArray.toList_eq,List.map_nil,List.length_nil,n1,n2,n3,k5,k1,k11,k4,k24]
        refine hfindx _ _ ?_
        simp -implicitDefEqProofs (maxSteps := 2000000) only [↓ops_nil,↓ops_none,↓ops_some,↓kd_eff,↓dr_nil,↓dr_cons,↓d1_none,↓d1_some,↓eff_store,↓eff_box,↓eff_alloc,↓eff_build,↓eff_buildSlice,↓eff_call,↓eff_append,↓eff_copy,↓eff_cap,↓eff_clear,↓eff_make,↓reduceIte,↓c_condI,↓c_seqH,↓c_blockH,↓then_nH,↓then_rH,↓then_eH,↓block_nH,↓block_rH,↓block_eH,go_sem]
        refine awp_drawH [] Try.mixed rfl fun R hR => ?_
        simp -implicitDefEqProofs (maxSteps := 2000000) only [↓ops_nil,↓ops_none,↓ops_some,↓kd_eff,↓dr_nil,↓dr_cons,↓d1_none,↓d1_some,↓eff_store,↓eff_box,↓eff_alloc,↓eff_build,↓eff_buildSlice,↓eff_call,↓eff_append,↓eff_copy,↓eff_cap,↓eff_clear,↓eff_make,↓reduceIte,↓c_condI,↓c_seqH,↓c_blockH,↓then_nH,↓then_rH,↓then_eH,↓block_nH,↓block_rH,↓block_eH,go_sem,hk,k5,ckx,ckx0,ckx1,hgx,conSV,har2,List.length_map]
        rw [hR]
        simp -implicitDefEqProofs (maxSteps := 2000000) only [↓ops_nil,↓ops_none,↓ops_some,↓kd_eff,↓dr_nil,↓dr_cons,↓d1_none,↓d1_some,↓eff_store,↓eff_box,↓eff_alloc,↓eff_build,↓eff_buildSlice,↓eff_call,↓eff_append,↓eff_copy,↓eff_cap,↓eff_clear,↓eff_make,↓reduceIte,↓c_condI,↓c_seqH,↓c_blockH,↓then_nH,↓then_rH,↓then_eH,↓block_nH,↓block_rH,↓block_eH,go_sem]
        refine awp_weaken (b := [.slice .imm 5 (consL.map conSV),.any,.any,.ref (nodeSV p).cells,.any,.any,i64 1,i64 0,.any,.any,.any,.any,.any,.any,.any,.any,.any,.any,.any,.any,.any,.any,.any,.any,.any,.any,.any,.any,.any,.any,.any,.any,.any,.any,.any,.any,.any,.any,.any,.any,.any,.any,.any,.any,.any,.any,.any,.any,.any,.any,.any,.any,.any,.any,.any,.any,.any,.any,.any,.any,.any,.any,.any,.any,.any,.any,.any,.any,.any,.any,.any,.any,.any,.any,.any,.any,.any,.any,.any,.any,.any,.any,.any,.any,.any,.any,.any,.any,.any,.any,.any,.any,.any,.any,.any,.any,.any,.any,.any,.any,.any,.any,.any,.any,.any,.any,.any,.any,.any,.any,.any,.any,.any]) ?_ g
        repeat (first | exact leEnv_nil | refine leEnv_any _ ?_ | refine leEnv_same _ ?_ | refine leEnv_norm _ ?_)
    case hz =>
      refine awp_rounds [] (fun b e s => ∃ j,j + b = p.kids.length ∧ s = st ∧ e = [.slice .imm 5 (consL.map conSV),.any,.any,.ref (nodeSV p).cells,.any,.any,i64 ((1 + ((p.kids.map (szT d)).take j).sum : Nat) : Int),i64 j,.any,.any,.any,.any,.any,.any,.any,.any,.any,.any,.any,.any,.any,.any,.any,.any,.any,.any,.any,.any,.any,.any,.any,.any,.any,.any,.any,.any,.any,.any,.any,.any,.any,.any,.any,.any,.any,.any,.any,.any,.any,.any,.any,.any,.any,.any,.any,.any,.any,.any,.any,.any,.any,.any,.any,.any,.any,.any,.any,.any,.any,.any,.any,.any,.any,.any,.any,.any,.any,.any,.any,.any,.any,.any,.any,.any,.any,.any,.any,.any,.any,.any,.any,.any,.any,.any,.any,.any,.any,.any,.any,.any,.any,.any,.any,.any,.any,.any,.any,.any,.any,.any,.any,.any,.any]) (n := p.kids.length) ?_ ⟨0,by omega,rfl,rfl⟩ ?_
      · repeat (first | exact leEnv_nil | refine leEnv_any _ ?_ | refine leEnv_same _ ?_ | refine leEnv_norm _ ?_)
      rintro b e s ⟨j,hj,rfl,rfl⟩
      by_cases hlt : j < p.kids.length
      · have c1 : (j : Int) < (p.kids.length : Int) := by omega
        have c3 : (0 : Int) ≤ (j : Int) := by omega
        have hw := wrap1 (k := j) (by omega)
        have hgt := getm nodeSV hlt
        have hq := hkids _ (List.getElem_mem hlt)
        have htk : ((p.kids.map (szT d)).take (j + 1)).sum = ((p.kids.map (szT d)).take j).sum + szT d p.kids[j] := by
          rw [List.take_succ_eq_append_getElem (by rw [List.length_map]; exact hlt),List.sum_append,List.getElem_map]; simp
        have hle := sum_take (p.kids.map (szT d)) (j + 1)
        obtain ⟨y,hy⟩ : ∃ y,p.kids[j] = y := ⟨_,rfl⟩
        rw [hy] at hgt hq htk
        have hyp : 0 < szT d y := by
          cases d with
          | zero => cases hq
          | succ d => exact szT_pos d y
        have e0 : (((szT d y : Nat) : Int) == 0) = false := by simp; omega
        have hadd : IntKind.i64.wrap (((1 + ((p.kids.map (szT d)).take j).sum : Nat) : Int) + ((szT d y : Nat) : Int)) = ((1 + ((p.kids.map (szT d)).take (j + 1)).sum : Nat) : Int) := by rw [IntWalk.i64_in _ (by omega)]; omega
        have e3 : ¬ (30 : Int) < ((1 + ((p.kids.map (szT d)).take (j + 1)).sum : Nat) : Int) := by omega
        simp -implicitDefEqProofs (maxSteps := 2000000) only [↓ops_nil,↓ops_none,↓ops_some,↓kd_eff,↓dr_nil,↓dr_cons,↓d1_none,↓d1_some,↓eff_store,↓eff_box,↓eff_alloc,↓eff_build,↓eff_buildSlice,↓eff_call,↓eff_append,↓eff_copy,↓eff_cap,↓eff_clear,↓eff_make,↓reduceIte,↓c_condI,↓c_seqH,↓c_blockH,↓then_nH,↓then_rH,↓then_eH,↓block_nH,↓block_rH,↓block_eH,go_sem,c1,c3,hgt,cell_nd,List.length_map]
        refine ih y hq (by omega) _ _ ?_
        simp -implicitDefEqProofs (maxSteps := 2000000) only [↓ops_nil,↓ops_none,↓ops_some,↓kd_eff,↓dr_nil,↓dr_cons,↓d1_none,↓d1_some,↓eff_store,↓eff_box,↓eff_alloc,↓eff_build,↓eff_buildSlice,↓eff_call,↓eff_append,↓eff_copy,↓eff_cap,↓eff_clear,↓eff_make,↓reduceIte,↓c_condI,↓c_seqH,↓c_blockH,↓then_nH,↓then_rH,↓then_eH,↓block_nH,↓block_rH,↓block_eH,go_sem,e0,hadd,e3,hw]
        refine ⟨b - 1,[.slice .imm 5 (consL.map conSV),.any,.any,.ref (nodeSV p).cells,.any,.any,i64 ((1 + ((p.kids.map (szT d)).take (j + 1)).sum : Nat) : Int),i64 ((j + 1 : Nat) : Int),.any,.any,.any,.any,.any,.any,.any,.any,.any,.any,.any,.any,.any,.any,.any,.any,.any,.any,.any,.any,.any,.any,.any,.any,.any,.any,.any,.any,.any,.any,.any,.any,.any,.any,.any,.any,.any,.any,.any,.any,.any,.any,.any,.any,.any,.any,.any,.any,.any,.any,.any,.any,.any,.any,.any,.any,.any,.any,.any,.any,.any,.any,.any,.any,.any,.any,.any,.any,.any,.any,.any,.any,.any,.any,.any,.any,.any,.any,.any,.any,.any,.any,.any,.any,.any,.any,.any,.any,.any,.any,.any,.any,.any,.any,.any,.any,.any,.any,.any,.any,.any,.any,.any,.any,.any],by omega,?_,j + 1,by omega,rfl⟩
        repeat (first | exact leEnv_nil | refine leEnv_any _ ?_ | refine leEnv_same _ ?_ | refine leEnv_norm _ ?_)
      obtain rfl : j = p.kids.length := by omega
      have c1 : ((p.kids.length : Int) < (p.kids.length : Int)) = False := eq_false (by omega)
      have hfull : (p.kids.map (szT d)).take p.kids.length = p.kids.map (szT d) := List.take_of_length_le (by rw [List.length_map]; exact Nat.le_refl _)
      rw [hsz2] at h
      rw [hfull]
      simp -implicitDefEqProofs (maxSteps := 2000000) only [↓ops_nil,↓ops_none,↓ops_some,↓kd_eff,↓dr_nil,↓dr_cons,↓d1_none,↓d1_some,↓eff_store,↓eff_box,↓eff_alloc,↓eff_build,↓eff_buildSlice,↓eff_call,↓eff_append,↓eff_copy,↓eff_cap,↓eff_clear,↓eff_make,↓reduceIte,↓c_condI,↓c_seqH,↓c_blockH,↓then_nH,↓then_rH,↓then_eH,↓block_nH,↓block_rH,↓block_eH,go_sem,c1,List.length_map]
      exact fin_sc h
theorem sizes : ∀ d,SizesTo d
  | 0 => fun p h => by cases h
  | d + 1 => size_step d (sizes d)
end Go.Proofs
namespace Go.Proofs
open Go Go.AL
def TogTo (b : Nat) : Prop := ∀ (d : Nat) (md : AL.Mode) (l : List Nd),l.length ≤ 1000 → (∀ p ∈ l,okP eqsS d p = true) → togT eqsS consL b l = true → ∀ (K : SV → St → Prop) (st : St),K (.sc (.bool true)) st → ACalls Try.prog 30 [.slice .imm 5 (consL.map conSV),.slice md 6 (l.map nodeSV)] K st
theorem okP_up {d : Nat} {p : Nd} (h : okP eqsS d p = true) : ∃ d',d = d' + 1 := by
  cases d with
  | zero => cases h
  | succ d => exact ⟨d,rfl⟩
theorem parts_has {d : Nat} {l : List Nd} (hl : ∀ p ∈ l,okP eqsS d p = true) {c : Cn} (hc : c ∈ consL) {i : Nat} (hi : (i : Int) < c.arity) : ∀ p ∈ l,p.kind = 5 → p.text.data.toList = c.name.data.toList → i < p.kids.length := by
  intro p hp hk ht
  obtain ⟨d',rfl⟩ := okP_up (hl p hp)
  obtain ⟨_,_,h | ⟨_,c',hf,har,_⟩⟩ := okP_cases (hl p hp)
  · rw [h.1] at hk; cases hk
  · have h1 := hfind_cons c hc
    have h2 : findC consL p.text = some c' := hf
    have h3 : findC consL p.text = findC consL c.name := by
      unfold findC
      simp only [ByteArray.toList_eq,ht]
    rw [h3,h1] at h2
    have := Option.some.inj h2
    subst this
    omega
theorem parts_ok {d : Nat} {l : List Nd} (hl : ∀ p ∈ l,okP eqsS (d + 1) p = true) {c : Cn} (hc : c ∈ consL) {i : Nat} (hi : (i : Int) < c.arity) : ∀ q ∈ partsT l c.name i,okP eqsS d q = true := by
  intro q hq
  unfold partsT at hq
  obtain ⟨p,hp,rfl⟩ := List.mem_map.1 hq
  rw [List.mem_filter] at hp
  obtain ⟨hp,hpk⟩ := hp
  simp only [Bool.and_eq_true,beq_iff_eq] at hpk
  have hlt := parts_has hl hc hi p hp hpk.1 hpk.2
  obtain ⟨_,_,h | ⟨_,c',_,_,hkids⟩⟩ := okP_cases (hl p hp)
  · rw [h.1] at hpk; cases hpk.1
  · rw [getd hlt]
    exact hkids _ (List.getElem_mem hlt)
theorem tog_step (b : Nat) (ih : TogTo b) : TogTo (b + 1) := by
  intro d md l hll hl ht K st h
  rw [togT] at ht
  cases hst : stTog eqsS l 0 ⟨#[]⟩ with
  | none => rw [hst] at ht; cases ht
  | some p =>
    obtain ⟨kF,oF⟩ := p
    rw [hst] at ht
    dsimp only at ht
    refine acalls_go_pure [] Try.func30 rfl Try.results30 Try.ntmps30 ?_
    simp -implicitDefEqProofs (maxSteps := 2000000) only [↓ops_nil,↓ops_none,↓ops_some,↓kd_eff,↓dr_nil,↓dr_cons,↓d1_none,↓d1_some,↓eff_store,↓eff_box,↓eff_alloc,↓eff_build,↓eff_buildSlice,↓eff_call,↓eff_append,↓eff_copy,↓eff_cap,↓eff_clear,↓eff_make,↓reduceIte,↓c_condI,↓c_seqH,↓c_blockH,↓then_nH,↓then_rH,↓then_eH,↓block_nH,↓block_rH,↓block_eH,go_sem]
    refine awp_rounds [] (fun bb e s => ∃ (i : Nat) (kd : Int) (og : ByteArray),i + bb = l.length ∧ stTog eqsS (l.drop i) kd og = some (kF,oF) ∧ s = st ∧ e = [.slice .imm 5 (consL.map conSV),.slice md 6 (l.map nodeSV),.any,.any,.any,i64 kd,str og,i64 i,.any,.any,.any,.any,.any,.any,.any,.any,.any,.any,.any,.any,.any,.any,.any,.any,.any,.any,.any,.any,.any,.any,.any,.any,.any,.any,.any,.any,.any,.any,.any,.any,.any,.any,.any,.any,.any,.any,.any,.any,.any,.any,.any,.any,.any,.any,.any,.any,.any,.any,.any,.any,.any,.any,.any,.any,.any,.any,.any,.any,.any,.any,.any,.any,.any,.any,.any,.any,.any,.any,.any,.any,.any,.any,.any,.any,.any,.any,.any,.any,.any,.any,.any,.any,.any,.any,.any,.any,.any,.any,.any,.any]) (n := l.length) ?_ ⟨0,0,⟨#[]⟩,by omega,hst,rfl,rfl⟩ ?_
    · repeat (first | exact leEnv_nil | refine leEnv_any _ ?_ | refine leEnv_same _ ?_ | refine leEnv_norm _ ?_)
    rintro bb e s ⟨i,kd,og,hib,hrest,rfl,rfl⟩
    by_cases hlt : i < l.length
    · have c1 : (i : Int) < (l.length : Int) := by omega
      have c3 : (0 : Int) ≤ (i : Int) := by omega
      have hw := wrap1 (k := i) (by omega)
      have hgt := getm nodeSV hlt
      have hokx := hl _ (List.getElem_mem hlt)
      rw [List.drop_eq_getElem_cons hlt,stTog] at hrest
      obtain ⟨x,hx⟩ : ∃ x,l[i] = x := ⟨_,rfl⟩
      rw [hx] at hgt hokx hrest
      obtain ⟨d',rfl⟩ := okP_up hokx
      rcases (Bool.eq_false_or_eq_true (looseB x)) with hL | hL
      · rw [if_pos hL] at hrest
        simp -implicitDefEqProofs (maxSteps := 2000000) only [↓ops_nil,↓ops_none,↓ops_some,↓kd_eff,↓dr_nil,↓dr_cons,↓d1_none,↓d1_some,↓eff_store,↓eff_box,↓eff_alloc,↓eff_build,↓eff_buildSlice,↓eff_call,↓eff_append,↓eff_copy,↓eff_cap,↓eff_clear,↓eff_make,↓reduceIte,↓c_condI,↓c_seqH,↓c_blockH,↓then_nH,↓then_rH,↓then_eH,↓block_nH,↓block_rH,↓block_eH,go_sem,c1,c3,hgt,cell_nd,List.length_map]
        refine loose61_c _ _ _ ?_
        rw [hL]
        simp -implicitDefEqProofs (maxSteps := 2000000) only [↓ops_nil,↓ops_none,↓ops_some,↓kd_eff,↓dr_nil,↓dr_cons,↓d1_none,↓d1_some,↓eff_store,↓eff_box,↓eff_alloc,↓eff_build,↓eff_buildSlice,↓eff_call,↓eff_append,↓eff_copy,↓eff_cap,↓eff_clear,↓eff_make,↓reduceIte,↓c_condI,↓c_seqH,↓c_blockH,↓then_nH,↓then_rH,↓then_eH,↓block_nH,↓block_rH,↓block_eH,go_sem,hw]
        refine ⟨bb - 1,[.slice .imm 5 (consL.map conSV),.slice md 6 (l.map nodeSV),.any,.any,.any,i64 kd,str og,i64 ((i + 1 : Nat) : Int),.any,.any,.any,.any,.any,.any,.any,.any,.any,.any,.any,.any,.any,.any,.any,.any,.any,.any,.any,.any,.any,.any,.any,.any,.any,.any,.any,.any,.any,.any,.any,.any,.any,.any,.any,.any,.any,.any,.any,.any,.any,.any,.any,.any,.any,.any,.any,.any,.any,.any,.any,.any,.any,.any,.any,.any,.any,.any,.any,.any,.any,.any,.any,.any,.any,.any,.any,.any,.any,.any,.any,.any,.any,.any,.any,.any,.any,.any,.any,.any,.any,.any,.any,.any,.any,.any,.any,.any,.any,.any,.any,.any],by omega,?_,i + 1,kd,og,by omega,hrest,rfl⟩
        repeat (first | exact leEnv_nil | refine leEnv_any _ ?_ | refine leEnv_same _ ?_ | refine leEnv_norm _ ?_)
      rw [if_neg (by rw [hL]; decide)] at hrest
      obtain ⟨_,_,hc | ⟨hk,c,hf,har,_⟩⟩ := okP_cases hokx
      · have : looseB x = true := by unfold looseB; rw [hc.1]; rfl
        rw [this] at hL; cases hL
      have hsome : (eqsS.fc x.text).isSome = true := by rw [hf]; rfl
      obtain ⟨kx,hkx,hidx,hget⟩ := find_cn hsome
      have hcn : cnOf eqsS x = c := by unfold cnOf; rw [hf]; rfl
      have hgx := getm conSV hkx
      rw [hget,hcn] at hgx
      rw [hcn] at hrest
      have ckx : (kx : Int) < (consL.length : Int) := by omega
      have ckx0 : (0 : Int) ≤ (kx : Int) := by omega
      have hfindx : ∀ (K : SV → St → Prop) (st : St),K (i64 kx) st → ACalls Try.prog 33 [.slice .imm 5 (consL.map conSV),str x.text] K st := fun K st hK => find33_c .imm consL x.text (by decide) K st (by rw [hidx]; exact hK)
      have k55 : ((5 : Int) == 5) = true := rfl
      rw [hk] at hrest
      split at hrest
      · cases hrest
      rename_i hcond
      have hcond2 : (kd != 0) = false ∨ ((kd != 0) = true ∧ (kd != 5) = false ∧ (og.data.toList != c.of_.data.toList) = false) := by
        cases hz : (kd != 0) with
        | false => exact .inl rfl
        | true =>
          refine .inr ⟨rfl,?_,?_⟩
          · cases h5 : (kd != 5) with
            | false => rfl
            | true => rw [hz,h5] at hcond; exact absurd rfl hcond
          · cases ho : (og.data.toList == c.of_.data.toList) with
            | true => unfold bne; rw [ho]; rfl
            | false => rw [hz,ho] at hcond; simp at hcond
      rcases hcond2 with hz | ⟨hz,h5,ho⟩
      · simp -implicitDefEqProofs (maxSteps := 2000000) only [↓ops_nil,↓ops_none,↓ops_some,↓kd_eff,↓dr_nil,↓dr_cons,↓d1_none,↓d1_some,↓eff_store,↓eff_box,↓eff_alloc,↓eff_build,↓eff_buildSlice,↓eff_call,↓eff_append,↓eff_copy,↓eff_cap,↓eff_clear,↓eff_make,↓reduceIte,↓c_condI,↓c_seqH,↓c_blockH,↓then_nH,↓then_rH,↓then_eH,↓block_nH,↓block_rH,↓block_eH,go_sem,c1,c3,hgt,cell_nd,List.length_map]
        refine loose61_c _ _ _ ?_
        rw [hL]
        simp -implicitDefEqProofs (maxSteps := 2000000) only [↓ops_nil,↓ops_none,↓ops_some,↓kd_eff,↓dr_nil,↓dr_cons,↓d1_none,↓d1_some,↓eff_store,↓eff_box,↓eff_alloc,↓eff_build,↓eff_buildSlice,↓eff_call,↓eff_append,↓eff_copy,↓eff_cap,↓eff_clear,↓eff_make,↓reduceIte,↓c_condI,↓c_seqH,↓c_blockH,↓then_nH,↓then_rH,↓then_eH,↓block_nH,↓block_rH,↓block_eH,go_sem,c1,c3,hgt,hk,k55,List.length_map]
        refine hfindx _ _ ?_
        simp -implicitDefEqProofs (maxSteps := 2000000) only [↓ops_nil,↓ops_none,↓ops_some,↓kd_eff,↓dr_nil,↓dr_cons,↓d1_none,↓d1_some,↓eff_store,↓eff_box,↓eff_alloc,↓eff_build,↓eff_buildSlice,↓eff_call,↓eff_append,↓eff_copy,↓eff_cap,↓eff_clear,↓eff_make,↓reduceIte,↓c_condI,↓c_seqH,↓c_blockH,↓then_nH,↓then_rH,↓then_eH,↓block_nH,↓block_rH,↓block_eH,go_sem,ckx,ckx0,hgx,conSV,hz,c1,c3,hgt,hk,hw,List.length_map]
        refine ⟨bb - 1,[.slice .imm 5 (consL.map conSV),.slice md 6 (l.map nodeSV),.any,.any,.any,i64 5,str c.of_,i64 ((i + 1 : Nat) : Int),.any,.any,.any,.any,.any,.any,.any,.any,.any,.any,.any,.any,.any,.any,.any,.any,.any,.any,.any,.any,.any,.any,.any,.any,.any,.any,.any,.any,.any,.any,.any,.any,.any,.any,.any,.any,.any,.any,.any,.any,.any,.any,.any,.any,.any,.any,.any,.any,.any,.any,.any,.any,.any,.any,.any,.any,.any,.any,.any,.any,.any,.any,.any,.any,.any,.any,.any,.any,.any,.any,.any,.any,.any,.any,.any,.any,.any,.any,.any,.any,.any,.any,.any,.any,.any,.any,.any,.any,.any,.any,.any,.any],by omega,?_,i + 1,5,c.of_,by omega,hrest,rfl⟩
        repeat (first | exact leEnv_nil | refine leEnv_any _ ?_ | refine leEnv_same _ ?_ | refine leEnv_norm _ ?_)
      · have ho2 : (og.data.toList == c.of_.data.toList) = true := by unfold bne at ho; simpa using ho
        simp -implicitDefEqProofs (maxSteps := 2000000) only [↓ops_nil,↓ops_none,↓ops_some,↓kd_eff,↓dr_nil,↓dr_cons,↓d1_none,↓d1_some,↓eff_store,↓eff_box,↓eff_alloc,↓eff_build,↓eff_buildSlice,↓eff_call,↓eff_append,↓eff_copy,↓eff_cap,↓eff_clear,↓eff_make,↓reduceIte,↓c_condI,↓c_seqH,↓c_blockH,↓then_nH,↓then_rH,↓then_eH,↓block_nH,↓block_rH,↓block_eH,go_sem,c1,c3,hgt,cell_nd,List.length_map]
        refine loose61_c _ _ _ ?_
        rw [hL]
        simp -implicitDefEqProofs (maxSteps := 2000000) only [↓ops_nil,↓ops_none,↓ops_some,↓kd_eff,↓dr_nil,↓dr_cons,↓d1_none,↓d1_some,↓eff_store,↓eff_box,↓eff_alloc,↓eff_build,↓eff_buildSlice,↓eff_call,↓eff_append,↓eff_copy,↓eff_cap,↓eff_clear,↓eff_make,↓reduceIte,↓c_condI,↓c_seqH,↓c_blockH,↓then_nH,↓then_rH,↓then_eH,↓block_nH,↓block_rH,↓block_eH,go_sem,c1,c3,hgt,hk,k55,List.length_map]
        refine hfindx _ _ ?_
        simp -implicitDefEqProofs (maxSteps := 2000000) only [↓ops_nil,↓ops_none,↓ops_some,↓kd_eff,↓dr_nil,↓dr_cons,↓d1_none,↓d1_some,↓eff_store,↓eff_box,↓eff_alloc,↓eff_build,↓eff_buildSlice,↓eff_call,↓eff_append,↓eff_copy,↓eff_cap,↓eff_clear,↓eff_make,↓reduceIte,↓c_condI,↓c_seqH,↓c_blockH,↓then_nH,↓then_rH,↓then_eH,↓block_nH,↓block_rH,↓block_eH,go_sem,ckx,ckx0,hgx,conSV,hz,h5,ho2,Bool.not_true,ByteArray.toList_eq,ho,c1,c3,hgt,hk,hw,List.length_map]
        refine ⟨bb - 1,[.slice .imm 5 (consL.map conSV),.slice md 6 (l.map nodeSV),.any,.any,.any,i64 5,str c.of_,i64 ((i + 1 : Nat) : Int),.any,.any,.any,.any,.any,.any,.any,.any,.any,.any,.any,.any,.any,.any,.any,.any,.any,.any,.any,.any,.any,.any,.any,.any,.any,.any,.any,.any,.any,.any,.any,.any,.any,.any,.any,.any,.any,.any,.any,.any,.any,.any,.any,.any,.any,.any,.any,.any,.any,.any,.any,.any,.any,.any,.any,.any,.any,.any,.any,.any,.any,.any,.any,.any,.any,.any,.any,.any,.any,.any,.any,.any,.any,.any,.any,.any,.any,.any,.any,.any,.any,.any,.any,.any,.any,.any,.any,.any,.any,.any,.any,.any],by omega,?_,i + 1,5,c.of_,by omega,hrest,rfl⟩
        repeat (first | exact leEnv_nil | refine leEnv_any _ ?_ | refine leEnv_same _ ?_ | refine leEnv_norm _ ?_)
    obtain rfl : i = l.length := by omega
    have c1 : ((l.length : Int) < (l.length : Int)) = False := eq_false (by omega)
    rw [List.drop_length,stTog] at hrest
    injection hrest with hrest
    injection hrest with f1 f2
    subst f1; subst f2
    cases h5 : (kd != 5) with
    | true =>
      simp -implicitDefEqProofs (maxSteps := 2000000) only [↓ops_nil,↓ops_none,↓ops_some,↓kd_eff,↓dr_nil,↓dr_cons,↓d1_none,↓d1_some,↓eff_store,↓eff_box,↓eff_alloc,↓eff_build,↓eff_buildSlice,↓eff_call,↓eff_append,↓eff_copy,↓eff_cap,↓eff_clear,↓eff_make,↓reduceIte,↓c_condI,↓c_seqH,↓c_blockH,↓then_nH,↓then_rH,↓then_eH,↓block_nH,↓block_rH,↓block_eH,go_sem,c1,h5,List.length_map]
      exact fin_sc h
    | false =>
      rw [h5,if_neg (by decide),List.all_eq_true] at ht
      simp -implicitDefEqProofs (maxSteps := 2000000) only [↓ops_nil,↓ops_none,↓ops_some,↓kd_eff,↓dr_nil,↓dr_cons,↓d1_none,↓d1_some,↓eff_store,↓eff_box,↓eff_alloc,↓eff_build,↓eff_buildSlice,↓eff_call,↓eff_append,↓eff_copy,↓eff_cap,↓eff_clear,↓eff_make,↓reduceIte,↓c_condI,↓c_seqH,↓c_blockH,↓then_nH,↓then_rH,↓then_eH,↓block_nH,↓block_rH,↓block_eH,go_sem,c1,h5,List.length_map]
      refine awp_rounds [] (fun b2 e s2 => ∃ (q : Nat),q + b2 = consL.length ∧ (∃ ex,s2 = s ++ ex) ∧ e = [.slice .imm 5 (consL.map conSV),.slice md 6 (l.map nodeSV),.any,.any,.any,.any,str og,.any,.any,i64 q,.any,.any,.any,.any,.any,.any,.any,.any,.any,.any,.any,.any,.any,.any,.any,.any,.any,.any,.any,.any,.any,.any,.any,.any,.any,.any,.any,.any,.any,.any,.any,.any,.any,.any,.any,.any,.any,.any,.any,.any,.any,.any,.any,.any,.any,.any,.any,.any,.any,.any,.any,.any,.any,.any,.any,.any,.any,.any,.any,.any,.any,.any,.any,.any,.any,.any,.any,.any,.any,.any,.any,.any,.any,.any,.any,.any,.any,.any,.any,.any,.any,.any,.any,.any,.any,.any,.any,.any,.any,.any]) (n := consL.length) ?_ ⟨0,by omega,⟨[],by simp⟩,rfl⟩ ?_
      · repeat (first | exact leEnv_nil | refine leEnv_any _ ?_ | refine leEnv_same _ ?_ | refine leEnv_norm _ ?_)
      rintro b2 e s2 ⟨q,hq,hex,rfl⟩
      by_cases hlq : q < consL.length
      · have d1 : (q : Int) < (consL.length : Int) := by omega
        have d3 : (0 : Int) ≤ (q : Int) := by omega
        have hwq := wrap1 (k := q) (by have : consL.length = 8 := rfl; omega)
        have hgq := getm conSV hlq
        have hcm : consL[q] ∈ consL := List.getElem_mem hlq
        have htq := ht _ hcm
        have hari := low_cons.2 _ hcm
        obtain ⟨c,hc⟩ : ∃ c,consL[q] = c := ⟨_,rfl⟩
        rw [hc] at hgq hcm htq hari
        simp -implicitDefEqProofs (maxSteps := 2000000) only [↓ops_nil,↓ops_none,↓ops_some,↓kd_eff,↓dr_nil,↓dr_cons,↓d1_none,↓d1_some,↓eff_store,↓eff_box,↓eff_alloc,↓eff_build,↓eff_buildSlice,↓eff_call,↓eff_append,↓eff_copy,↓eff_cap,↓eff_clear,↓eff_make,↓reduceIte,↓c_condI,↓c_seqH,↓c_blockH,↓then_nH,↓then_rH,↓then_eH,↓block_nH,↓block_rH,↓block_eH,go_sem,d1]
        refine awp_rounds [] (fun b3 e s3 => ∃ (j : Nat),j + b3 = c.arity.toNat ∧ (∃ ex,s3 = s ++ ex) ∧ e = [.slice .imm 5 (consL.map conSV),.slice md 6 (l.map nodeSV),.any,.any,.any,.any,str og,.any,.any,i64 q,i64 j,.any,.any,.any,.any,.any,.any,.any,.any,.any,.any,.any,.any,.any,.any,.any,.any,.any,.any,.any,.any,.any,.any,.any,.any,.any,.any,.any,.any,.any,.any,.any,.any,.any,.any,.any,.any,.any,.any,.any,.any,.any,.any,.any,.any,.any,.any,.any,.any,.any,.any,.any,.any,.any,.any,.any,.any,.any,.any,.any,.any,.any,.any,.any,.any,.any,.any,.any,.any,.any,.any,.any,.any,.any,.any,.any,.any,.any,.any,.any,.any,.any,.any,.any,.any,.any,.any,.any,.any,.any]) (n := c.arity.toNat) ?_ ⟨0,by omega,hex,rfl⟩ ?_
        · repeat (first | exact leEnv_nil | refine leEnv_any _ ?_ | refine leEnv_same _ ?_ | refine leEnv_norm _ ?_)
        rintro b3 e s3 ⟨j,hj,hex3,rfl⟩
        have hwj := wrap1 (k := j) (by omega)
        have hnx : ∀ fr : List SV,True := fun _ => trivial
        by_cases hlj : (j : Int) < c.arity
        · cases hof : (c.of_.data.toList == og.data.toList) with
          | false =>
            simp -implicitDefEqProofs (maxSteps := 2000000) only [↓ops_nil,↓ops_none,↓ops_some,↓kd_eff,↓dr_nil,↓dr_cons,↓d1_none,↓d1_some,↓eff_store,↓eff_box,↓eff_alloc,↓eff_build,↓eff_buildSlice,↓eff_call,↓eff_append,↓eff_copy,↓eff_cap,↓eff_clear,↓eff_make,↓reduceIte,↓c_condI,↓c_seqH,↓c_blockH,↓then_nH,↓then_rH,↓then_eH,↓block_nH,↓block_rH,↓block_eH,go_sem,d1,d3,hgq,conSV,hlj,ByteArray.toList_eq,hof,hwq,List.length_map]
            refine ⟨b2 - 1,[.slice .imm 5 (consL.map conSV),.slice md 6 (l.map nodeSV),.any,.any,.any,.any,str og,.any,.any,i64 ((q + 1 : Nat) : Int),.any,.any,.any,.any,.any,.any,.any,.any,.any,.any,.any,.any,.any,.any,.any,.any,.any,.any,.any,.any,.any,.any,.any,.any,.any,.any,.any,.any,.any,.any,.any,.any,.any,.any,.any,.any,.any,.any,.any,.any,.any,.any,.any,.any,.any,.any,.any,.any,.any,.any,.any,.any,.any,.any,.any,.any,.any,.any,.any,.any,.any,.any,.any,.any,.any,.any,.any,.any,.any,.any,.any,.any,.any,.any,.any,.any,.any,.any,.any,.any,.any,.any,.any,.any,.any,.any,.any,.any,.any,.any],by omega,?_,q + 1,by omega,hex3,rfl⟩
            repeat (first | exact leEnv_nil | refine leEnv_any _ ?_ | refine leEnv_same _ ?_ | refine leEnv_norm _ ?_)
          | true =>
            rw [hof] at htq
            simp only [Bool.not_true,Bool.false_or,List.all_eq_true] at htq
            have htj := htq j (List.mem_range.2 (by omega))
            have hpl := parts_len l c.name j
            have hdec : l = [] ∨ ∃ d',d = d' + 1 := by
              cases l with
              | nil => exact .inl rfl
              | cons a r => exact .inr (okP_up (hl a (List.mem_cons_self ..)))
            have hpok : ∃ d',∀ q ∈ partsT l c.name j,okP eqsS d' q = true := by
              rcases hdec with rfl | ⟨d',rfl⟩
              · exact ⟨0,fun q hq => by cases hq⟩
              · exact ⟨d',parts_ok hl hcm hlj⟩
            obtain ⟨d',hpok⟩ := hpok
            simp -implicitDefEqProofs (maxSteps := 2000000) only [↓ops_nil,↓ops_none,↓ops_some,↓kd_eff,↓dr_nil,↓dr_cons,↓d1_none,↓d1_some,↓eff_store,↓eff_box,↓eff_alloc,↓eff_build,↓eff_buildSlice,↓eff_call,↓eff_append,↓eff_copy,↓eff_cap,↓eff_clear,↓eff_make,↓reduceIte,↓c_condI,↓c_seqH,↓c_blockH,↓then_nH,↓then_rH,↓then_eH,↓block_nH,↓block_rH,↓block_eH,go_sem,d1,d3,hgq,conSV,hlj,ByteArray.toList_eq,hof,List.length_map]
            refine parts62_c md l c.name j hll (parts_has hl hcm hlj) _ _ ?_
            simp -implicitDefEqProofs (maxSteps := 2000000) only [↓ops_nil,↓ops_none,↓ops_some,↓kd_eff,↓dr_nil,↓dr_cons,↓d1_none,↓d1_some,↓eff_store,↓eff_box,↓eff_alloc,↓eff_build,↓eff_buildSlice,↓eff_call,↓eff_append,↓eff_copy,↓eff_cap,↓eff_clear,↓eff_make,↓reduceIte,↓c_condI,↓c_seqH,↓c_blockH,↓then_nH,↓then_rH,↓then_eH,↓block_nH,↓block_rH,↓block_eH,go_sem]
            refine ih d' .imm (partsT l c.name j) (by omega) hpok htj _ _ ?_
            simp -implicitDefEqProofs (maxSteps := 2000000) only [↓ops_nil,↓ops_none,↓ops_some,↓kd_eff,↓dr_nil,↓dr_cons,↓d1_none,↓d1_some,↓eff_store,↓eff_box,↓eff_alloc,↓eff_build,↓eff_buildSlice,↓eff_call,↓eff_append,↓eff_copy,↓eff_cap,↓eff_clear,↓eff_make,↓reduceIte,↓c_condI,↓c_seqH,↓c_blockH,↓then_nH,↓then_rH,↓then_eH,↓block_nH,↓block_rH,↓block_eH,go_sem,hwj]
            refine ⟨b3 - 1,[.slice .imm 5 (consL.map conSV),.slice md 6 (l.map nodeSV),.any,.any,.any,.any,str og,.any,.any,i64 q,i64 ((j + 1 : Nat) : Int),.any,.any,.any,.any,.any,.any,.any,.any,.any,.any,.any,.any,.any,.any,.any,.any,.any,.any,.any,.any,.any,.any,.any,.any,.any,.any,.any,.any,.any,.any,.any,.any,.any,.any,.any,.any,.any,.any,.any,.any,.any,.any,.any,.any,.any,.any,.any,.any,.any,.any,.any,.any,.any,.any,.any,.any,.any,.any,.any,.any,.any,.any,.any,.any,.any,.any,.any,.any,.any,.any,.any,.any,.any,.any,.any,.any,.any,.any,.any,.any,.any,.any,.any,.any,.any,.any,.any,.any,.any],by omega,?_,j + 1,by omega,hex3,rfl⟩
            repeat (first | exact leEnv_nil | refine leEnv_any _ ?_ | refine leEnv_same _ ?_ | refine leEnv_norm _ ?_)
        · simp -implicitDefEqProofs (maxSteps := 2000000) only [↓ops_nil,↓ops_none,↓ops_some,↓kd_eff,↓dr_nil,↓dr_cons,↓d1_none,↓d1_some,↓eff_store,↓eff_box,↓eff_alloc,↓eff_build,↓eff_buildSlice,↓eff_call,↓eff_append,↓eff_copy,↓eff_cap,↓eff_clear,↓eff_make,↓reduceIte,↓c_condI,↓c_seqH,↓c_blockH,↓then_nH,↓then_rH,↓then_eH,↓block_nH,↓block_rH,↓block_eH,go_sem,d1,d3,hgq,conSV,hlj,hwq,List.length_map]
          refine ⟨b2 - 1,[.slice .imm 5 (consL.map conSV),.slice md 6 (l.map nodeSV),.any,.any,.any,.any,str og,.any,.any,i64 ((q + 1 : Nat) : Int),.any,.any,.any,.any,.any,.any,.any,.any,.any,.any,.any,.any,.any,.any,.any,.any,.any,.any,.any,.any,.any,.any,.any,.any,.any,.any,.any,.any,.any,.any,.any,.any,.any,.any,.any,.any,.any,.any,.any,.any,.any,.any,.any,.any,.any,.any,.any,.any,.any,.any,.any,.any,.any,.any,.any,.any,.any,.any,.any,.any,.any,.any,.any,.any,.any,.any,.any,.any,.any,.any,.any,.any,.any,.any,.any,.any,.any,.any,.any,.any,.any,.any,.any,.any,.any,.any,.any,.any,.any,.any],by omega,?_,q + 1,by omega,hex3,rfl⟩
          repeat (first | exact leEnv_nil | refine leEnv_any _ ?_ | refine leEnv_same _ ?_ | refine leEnv_norm _ ?_)
      obtain rfl : q = consL.length := by omega
      have d1 : ((consL.length : Int) < (consL.length : Int)) = False := eq_false (by omega)
      simp -implicitDefEqProofs (maxSteps := 2000000) only [↓ops_nil,↓ops_none,↓ops_some,↓kd_eff,↓dr_nil,↓dr_cons,↓d1_none,↓d1_some,↓eff_store,↓eff_box,↓eff_alloc,↓eff_build,↓eff_buildSlice,↓eff_call,↓eff_append,↓eff_copy,↓eff_cap,↓eff_clear,↓eff_make,↓reduceIte,↓c_condI,↓c_seqH,↓c_blockH,↓then_nH,↓then_rH,↓then_eH,↓block_nH,↓block_rH,↓block_eH,go_sem,d1,List.length_map]
      exact fin_scS hex h
theorem togs : ∀ b,TogTo b
  | 0 => fun d md l _ _ h => by cases h
  | b + 1 => tog_step b (togs b)
end Go.Proofs
