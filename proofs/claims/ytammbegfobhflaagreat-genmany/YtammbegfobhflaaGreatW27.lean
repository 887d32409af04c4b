/- What an instruction takes and puts, as the document tells it (selvageref14.Effect). -/
import Derived.Test.YtammbegfobhflaaGreatW20
import Derived.Test.YtammbegfobhflaaGreatN1
import Derived.Test.YtammbegfobhflaaGreatAX
set_option linter.all false
set_option linter.unusedSimpArgs false
set_option linter.unusedVariables false
set_option maxRecDepth 8000
namespace Go.AL
theorem at_mapE {α : Type} (enc : α → SV) (d : α) {l : List α} {k : Nat} (h : k < l.length) : (l.map enc).getD k .any = enc (l.getD k d) := by simp [List.getD_eq_getElem?_getD, h]
theorem ids_eff (n : Nat) (b : Bool) (x y : Int) : Ids n (.tuple [.sc (.bool b), i64 x, i64 y]) := by
  refine .tuple _ fun i hi => ?_
  match i, hi with
  | 0, _ => exact .sc _
  | 1, _ => exact .sc _
  | 2, _ => exact .sc _
end Go.AL
namespace Go.Proofs
open Go Go.AL
set_option maxHeartbeats 8000000 in
theorem rEff_c {m1 m2 m3 : AL.Mode} {z1 z2 z3 : Nat} (c : Cd) (hz : CdZ m1 m2 m3 z1 z2 z3 c) (n : Nat) (hn : n < c.funs.length) (i : In) (K : SV → St → Prop) (st : St)
    (h : ∀ b T P, effF c n i = (b, T, P) → K (.tuple [.sc (.bool b), i64 T, i64 P]) st) : ACalls Tryz.prog 86 [.agg (cdCells m1 m2 m3 z1 z2 z3 c), i64 n, inSV i] K st := by
  have hzz := hz.f (fun e => by rw [e] at hn; exact absurd hn (by simp))
  subst hzz
  have c1 : (n : Int) < (c.funs.length : Int) := by omega
  have hg := at_mapE bdSV default (l := c.funs) (k := n) hn
  obtain ⟨f, hf⟩ : ∃ f, c.funs.getD n default = f := ⟨_, rfl⟩
  rw [hf] at hg
  unfold effF at h
  simp only [hf] at h
  refine acalls_go_pure [] Tryz.func86 rfl Tryz.results86 Tryz.ntmps86 ?_
  by_cases o1 : i.op = 1
  · simp only [o1, Int.reduceEq, if_true, if_false, reduceIte] at h
    simp -implicitDefEqProofs (maxSteps := 2000000) only [↓ops_nil, ↓ops_none, ↓ops_some, ↓kd_eff, ↓dr_nil, ↓dr_cons, ↓d1_none, ↓d1_some, ↓eff_store, ↓eff_box, ↓eff_alloc, ↓eff_build, ↓eff_buildSlice, ↓eff_call, ↓eff_append, ↓eff_copy, ↓eff_clear, ↓eff_make, ↓reduceIte, ↓c_condI, ↓c_seqH, ↓c_blockH, ↓then_nH, ↓then_rH, ↓then_eH, ↓block_nH, ↓block_rH, ↓block_eH, go_sem, cdCells, bdSV, insSV, inSV, inCells, List.length_map, c1, hg, o1, Int.reduceBEq]
    exact ⟨⟨_, rfl⟩, ids_eff _ _ _ _, h _ _ _ rfl⟩
  by_cases o2 : i.op = 2
  · simp only [o2, Int.reduceEq, if_true, if_false, reduceIte] at h
    simp -implicitDefEqProofs (maxSteps := 2000000) only [↓ops_nil, ↓ops_none, ↓ops_some, ↓kd_eff, ↓dr_nil, ↓dr_cons, ↓d1_none, ↓d1_some, ↓eff_store, ↓eff_box, ↓eff_alloc, ↓eff_build, ↓eff_buildSlice, ↓eff_call, ↓eff_append, ↓eff_copy, ↓eff_clear, ↓eff_make, ↓reduceIte, ↓c_condI, ↓c_seqH, ↓c_blockH, ↓then_nH, ↓then_rH, ↓then_eH, ↓block_nH, ↓block_rH, ↓block_eH, go_sem, cdCells, bdSV, insSV, inSV, inCells, List.length_map, c1, hg, o2, Int.reduceBEq]
    exact ⟨⟨_, rfl⟩, ids_eff _ _ _ _, h _ _ _ rfl⟩
  by_cases o3 : i.op = 3
  · simp only [o3, Int.reduceEq, if_true, if_false, reduceIte] at h
    simp -implicitDefEqProofs (maxSteps := 2000000) only [↓ops_nil, ↓ops_none, ↓ops_some, ↓kd_eff, ↓dr_nil, ↓dr_cons, ↓d1_none, ↓d1_some, ↓eff_store, ↓eff_box, ↓eff_alloc, ↓eff_build, ↓eff_buildSlice, ↓eff_call, ↓eff_append, ↓eff_copy, ↓eff_clear, ↓eff_make, ↓reduceIte, ↓c_condI, ↓c_seqH, ↓c_blockH, ↓then_nH, ↓then_rH, ↓then_eH, ↓block_nH, ↓block_rH, ↓block_eH, go_sem, cdCells, bdSV, insSV, inSV, inCells, List.length_map, c1, hg, o3, Int.reduceBEq]
    exact ⟨⟨_, rfl⟩, ids_eff _ _ _ _, h _ _ _ rfl⟩
  by_cases o4 : i.op = 4
  · simp only [o4, Int.reduceEq, if_true, if_false, reduceIte] at h
    simp -implicitDefEqProofs (maxSteps := 2000000) only [↓ops_nil, ↓ops_none, ↓ops_some, ↓kd_eff, ↓dr_nil, ↓dr_cons, ↓d1_none, ↓d1_some, ↓eff_store, ↓eff_box, ↓eff_alloc, ↓eff_build, ↓eff_buildSlice, ↓eff_call, ↓eff_append, ↓eff_copy, ↓eff_clear, ↓eff_make, ↓reduceIte, ↓c_condI, ↓c_seqH, ↓c_blockH, ↓then_nH, ↓then_rH, ↓then_eH, ↓block_nH, ↓block_rH, ↓block_eH, go_sem, cdCells, bdSV, insSV, inSV, inCells, List.length_map, c1, hg, o4, Int.reduceBEq]
    exact ⟨⟨_, rfl⟩, ids_eff _ _ _ _, h _ _ _ rfl⟩
  by_cases o5 : i.op = 5
  · simp only [o5, Int.reduceEq, if_true, if_false, reduceIte] at h
    have e5 : decide (0 < n) = ((n : Int) != 0) := by rw [Bool.eq_iff_iff]; simp; omega
    rw [e5] at h
    simp -implicitDefEqProofs (maxSteps := 2000000) only [↓ops_nil, ↓ops_none, ↓ops_some, ↓kd_eff, ↓dr_nil, ↓dr_cons, ↓d1_none, ↓d1_some, ↓eff_store, ↓eff_box, ↓eff_alloc, ↓eff_build, ↓eff_buildSlice, ↓eff_call, ↓eff_append, ↓eff_copy, ↓eff_clear, ↓eff_make, ↓reduceIte, ↓c_condI, ↓c_seqH, ↓c_blockH, ↓then_nH, ↓then_rH, ↓then_eH, ↓block_nH, ↓block_rH, ↓block_eH, go_sem, cdCells, bdSV, insSV, inSV, inCells, List.length_map, c1, hg, o5, Int.reduceBEq]
    exact ⟨⟨_, rfl⟩, ids_eff _ _ _ _, h _ _ _ rfl⟩
  by_cases o6 : i.op = 6
  · simp only [o6, Int.reduceEq, if_true, if_false, reduceIte] at h
    simp -implicitDefEqProofs (maxSteps := 2000000) only [↓ops_nil, ↓ops_none, ↓ops_some, ↓kd_eff, ↓dr_nil, ↓dr_cons, ↓d1_none, ↓d1_some, ↓eff_store, ↓eff_box, ↓eff_alloc, ↓eff_build, ↓eff_buildSlice, ↓eff_call, ↓eff_append, ↓eff_copy, ↓eff_clear, ↓eff_make, ↓reduceIte, ↓c_condI, ↓c_seqH, ↓c_blockH, ↓then_nH, ↓then_rH, ↓then_eH, ↓block_nH, ↓block_rH, ↓block_eH, go_sem, cdCells, bdSV, insSV, inSV, inCells, List.length_map, c1, hg, o6, Int.reduceBEq]
    exact ⟨⟨_, rfl⟩, ids_eff _ _ _ _, h _ _ _ rfl⟩
  by_cases o7 : i.op = 7
  · simp only [o7, Int.reduceEq, if_true, if_false, reduceIte] at h
    simp -implicitDefEqProofs (maxSteps := 2000000) only [↓ops_nil, ↓ops_none, ↓ops_some, ↓kd_eff, ↓dr_nil, ↓dr_cons, ↓d1_none, ↓d1_some, ↓eff_store, ↓eff_box, ↓eff_alloc, ↓eff_build, ↓eff_buildSlice, ↓eff_call, ↓eff_append, ↓eff_copy, ↓eff_clear, ↓eff_make, ↓reduceIte, ↓c_condI, ↓c_seqH, ↓c_blockH, ↓then_nH, ↓then_rH, ↓then_eH, ↓block_nH, ↓block_rH, ↓block_eH, go_sem, cdCells, bdSV, insSV, inSV, inCells, List.length_map, c1, hg, o7, Int.reduceBEq]
    exact ⟨⟨_, rfl⟩, ids_eff _ _ _ _, h _ _ _ rfl⟩
  by_cases o8 : i.op = 8
  · simp only [o8, Int.reduceEq, if_true, if_false, reduceIte] at h
    simp -implicitDefEqProofs (maxSteps := 2000000) only [↓ops_nil, ↓ops_none, ↓ops_some, ↓kd_eff, ↓dr_nil, ↓dr_cons, ↓d1_none, ↓d1_some, ↓eff_store, ↓eff_box, ↓eff_alloc, ↓eff_build, ↓eff_buildSlice, ↓eff_call, ↓eff_append, ↓eff_copy, ↓eff_clear, ↓eff_make, ↓reduceIte, ↓c_condI, ↓c_seqH, ↓c_blockH, ↓then_nH, ↓then_rH, ↓then_eH, ↓block_nH, ↓block_rH, ↓block_eH, go_sem, cdCells, bdSV, insSV, inSV, inCells, List.length_map, c1, hg, o8, Int.reduceBEq]
    exact ⟨⟨_, rfl⟩, ids_eff _ _ _ _, h _ _ _ rfl⟩
  by_cases o9 : i.op = 9
  · simp only [o9, Int.reduceEq, if_true, if_false, reduceIte] at h
    simp -implicitDefEqProofs (maxSteps := 2000000) only [↓ops_nil, ↓ops_none, ↓ops_some, ↓kd_eff, ↓dr_nil, ↓dr_cons, ↓d1_none, ↓d1_some, ↓eff_store, ↓eff_box, ↓eff_alloc, ↓eff_build, ↓eff_buildSlice, ↓eff_call, ↓eff_append, ↓eff_copy, ↓eff_clear, ↓eff_make, ↓reduceIte, ↓c_condI, ↓c_seqH, ↓c_blockH, ↓then_nH, ↓then_rH, ↓then_eH, ↓block_nH, ↓block_rH, ↓block_eH, go_sem, cdCells, bdSV, insSV, inSV, inCells, List.length_map, c1, hg, o9, Int.reduceBEq]
    exact ⟨⟨_, rfl⟩, ids_eff _ _ _ _, h _ _ _ rfl⟩
  by_cases o10 : i.op = 10
  · simp only [o10, Int.reduceEq, if_true, if_false, reduceIte] at h
    simp -implicitDefEqProofs (maxSteps := 2000000) only [↓ops_nil, ↓ops_none, ↓ops_some, ↓kd_eff, ↓dr_nil, ↓dr_cons, ↓d1_none, ↓d1_some, ↓eff_store, ↓eff_box, ↓eff_alloc, ↓eff_build, ↓eff_buildSlice, ↓eff_call, ↓eff_append, ↓eff_copy, ↓eff_clear, ↓eff_make, ↓reduceIte, ↓c_condI, ↓c_seqH, ↓c_blockH, ↓then_nH, ↓then_rH, ↓then_eH, ↓block_nH, ↓block_rH, ↓block_eH, go_sem, cdCells, bdSV, insSV, inSV, inCells, List.length_map, c1, hg, o10, Int.reduceBEq]
    refine awp_draw [] Tryz.mixed rfl ?_
    simp -implicitDefEqProofs (maxSteps := 2000000) only [↓ops_nil, ↓ops_none, ↓ops_some, ↓kd_eff, ↓dr_nil, ↓dr_cons, ↓d1_none, ↓d1_some, ↓eff_store, ↓eff_box, ↓eff_alloc, ↓eff_build, ↓eff_buildSlice, ↓eff_call, ↓eff_append, ↓eff_copy, ↓eff_clear, ↓eff_make, ↓reduceIte, ↓c_condI, ↓c_seqH, ↓c_blockH, ↓then_nH, ↓then_rH, ↓then_eH, ↓block_nH, ↓block_rH, ↓block_eH, go_sem]
    exact ⟨⟨_, rfl⟩, ids_eff _ _ _ _, h _ _ _ rfl⟩
  by_cases o11 : i.op = 11
  · simp only [o11, Int.reduceEq, if_true, if_false, reduceIte] at h
    simp -implicitDefEqProofs (maxSteps := 2000000) only [↓ops_nil, ↓ops_none, ↓ops_some, ↓kd_eff, ↓dr_nil, ↓dr_cons, ↓d1_none, ↓d1_some, ↓eff_store, ↓eff_box, ↓eff_alloc, ↓eff_build, ↓eff_buildSlice, ↓eff_call, ↓eff_append, ↓eff_copy, ↓eff_clear, ↓eff_make, ↓reduceIte, ↓c_condI, ↓c_seqH, ↓c_blockH, ↓then_nH, ↓then_rH, ↓then_eH, ↓block_nH, ↓block_rH, ↓block_eH, go_sem, cdCells, bdSV, insSV, inSV, inCells, List.length_map, c1, hg, o11, Int.reduceBEq]
    refine awp_draw [] Tryz.mixed rfl ?_
    by_cases k1 : 0 < i.a
    · have d1 : (1 : Int) ≤ i.a := by omega
      have d0 : (0 : Int) ≤ i.a := by omega
      by_cases k2 : i.a < (c.funs.length : Int)
      · have hga := at_mapE bdSV default (l := c.funs) (k := i.a.toNat) (by omega)
        simp only [k1, k2, decide_true, Bool.true_and] at h
        simp -implicitDefEqProofs (maxSteps := 2000000) only [↓ops_nil, ↓ops_none, ↓ops_some, ↓kd_eff, ↓dr_nil, ↓dr_cons, ↓d1_none, ↓d1_some, ↓eff_store, ↓eff_box, ↓eff_alloc, ↓eff_build, ↓eff_buildSlice, ↓eff_call, ↓eff_append, ↓eff_copy, ↓eff_clear, ↓eff_make, ↓reduceIte, ↓c_condI, ↓c_seqH, ↓c_blockH, ↓then_nH, ↓then_rH, ↓then_eH, ↓block_nH, ↓block_rH, ↓block_eH, go_sem, d1, d0, k2, List.length_map, hga, bdSV]
        exact ⟨⟨_, rfl⟩, ids_eff _ _ _ _, h _ _ _ rfl⟩
      · simp only [k1, k2, decide_true, decide_false, Bool.true_and, Bool.false_and] at h
        simp -implicitDefEqProofs (maxSteps := 2000000) only [↓ops_nil, ↓ops_none, ↓ops_some, ↓kd_eff, ↓dr_nil, ↓dr_cons, ↓d1_none, ↓d1_some, ↓eff_store, ↓eff_box, ↓eff_alloc, ↓eff_build, ↓eff_buildSlice, ↓eff_call, ↓eff_append, ↓eff_copy, ↓eff_clear, ↓eff_make, ↓reduceIte, ↓c_condI, ↓c_seqH, ↓c_blockH, ↓then_nH, ↓then_rH, ↓then_eH, ↓block_nH, ↓block_rH, ↓block_eH, go_sem, d1, k2, List.length_map]
        exact ⟨⟨_, rfl⟩, ids_eff _ _ _ _, h _ _ _ rfl⟩
    · have d1 : ¬ (1 : Int) ≤ i.a := by omega
      simp only [k1, decide_false, Bool.false_and] at h
      simp -implicitDefEqProofs (maxSteps := 2000000) only [↓ops_nil, ↓ops_none, ↓ops_some, ↓kd_eff, ↓dr_nil, ↓dr_cons, ↓d1_none, ↓d1_some, ↓eff_store, ↓eff_box, ↓eff_alloc, ↓eff_build, ↓eff_buildSlice, ↓eff_call, ↓eff_append, ↓eff_copy, ↓eff_clear, ↓eff_make, ↓reduceIte, ↓c_condI, ↓c_seqH, ↓c_blockH, ↓then_nH, ↓then_rH, ↓then_eH, ↓block_nH, ↓block_rH, ↓block_eH, go_sem, d1]
      exact ⟨⟨_, rfl⟩, ids_eff _ _ _ _, h _ _ _ rfl⟩
  by_cases o12 : i.op = 12
  · simp only [o12, Int.reduceEq, if_true, if_false, reduceIte] at h
    simp -implicitDefEqProofs (maxSteps := 2000000) only [↓ops_nil, ↓ops_none, ↓ops_some, ↓kd_eff, ↓dr_nil, ↓dr_cons, ↓d1_none, ↓d1_some, ↓eff_store, ↓eff_box, ↓eff_alloc, ↓eff_build, ↓eff_buildSlice, ↓eff_call, ↓eff_append, ↓eff_copy, ↓eff_clear, ↓eff_make, ↓reduceIte, ↓c_condI, ↓c_seqH, ↓c_blockH, ↓then_nH, ↓then_rH, ↓then_eH, ↓block_nH, ↓block_rH, ↓block_eH, go_sem, cdCells, bdSV, insSV, inSV, inCells, List.length_map, c1, hg, o12, Int.reduceBEq]
    exact ⟨⟨_, rfl⟩, ids_eff _ _ _ _, h _ _ _ rfl⟩
  by_cases o13 : i.op = 13
  · simp only [o13, Int.reduceEq, if_true, if_false, reduceIte] at h
    simp -implicitDefEqProofs (maxSteps := 2000000) only [↓ops_nil, ↓ops_none, ↓ops_some, ↓kd_eff, ↓dr_nil, ↓dr_cons, ↓d1_none, ↓d1_some, ↓eff_store, ↓eff_box, ↓eff_alloc, ↓eff_build, ↓eff_buildSlice, ↓eff_call, ↓eff_append, ↓eff_copy, ↓eff_clear, ↓eff_make, ↓reduceIte, ↓c_condI, ↓c_seqH, ↓c_blockH, ↓then_nH, ↓then_rH, ↓then_eH, ↓block_nH, ↓block_rH, ↓block_eH, go_sem, cdCells, bdSV, insSV, inSV, inCells, List.length_map, c1, hg, o13, Int.reduceBEq]
    exact ⟨⟨_, rfl⟩, ids_eff _ _ _ _, h _ _ _ rfl⟩
  by_cases o14 : i.op = 14
  · simp only [o14, Int.reduceEq, if_true, if_false, reduceIte] at h
    simp -implicitDefEqProofs (maxSteps := 2000000) only [↓ops_nil, ↓ops_none, ↓ops_some, ↓kd_eff, ↓dr_nil, ↓dr_cons, ↓d1_none, ↓d1_some, ↓eff_store, ↓eff_box, ↓eff_alloc, ↓eff_build, ↓eff_buildSlice, ↓eff_call, ↓eff_append, ↓eff_copy, ↓eff_clear, ↓eff_make, ↓reduceIte, ↓c_condI, ↓c_seqH, ↓c_blockH, ↓then_nH, ↓then_rH, ↓then_eH, ↓block_nH, ↓block_rH, ↓block_eH, go_sem, cdCells, bdSV, insSV, inSV, inCells, List.length_map, c1, hg, o14, Int.reduceBEq]
    exact ⟨⟨_, rfl⟩, ids_eff _ _ _ _, h _ _ _ rfl⟩
  by_cases o15 : i.op = 15
  · simp only [o15, Int.reduceEq, if_true, if_false, reduceIte] at h
    simp -implicitDefEqProofs (maxSteps := 2000000) only [↓ops_nil, ↓ops_none, ↓ops_some, ↓kd_eff, ↓dr_nil, ↓dr_cons, ↓d1_none, ↓d1_some, ↓eff_store, ↓eff_box, ↓eff_alloc, ↓eff_build, ↓eff_buildSlice, ↓eff_call, ↓eff_append, ↓eff_copy, ↓eff_clear, ↓eff_make, ↓reduceIte, ↓c_condI, ↓c_seqH, ↓c_blockH, ↓then_nH, ↓then_rH, ↓then_eH, ↓block_nH, ↓block_rH, ↓block_eH, go_sem, cdCells, bdSV, insSV, inSV, inCells, List.length_map, c1, hg, o15, Int.reduceBEq]
    exact ⟨⟨_, rfl⟩, ids_eff _ _ _ _, h _ _ _ rfl⟩
  by_cases o17 : i.op = 17
  · simp only [o17, Int.reduceEq, if_true, if_false, reduceIte] at h
    simp -implicitDefEqProofs (maxSteps := 2000000) only [↓ops_nil, ↓ops_none, ↓ops_some, ↓kd_eff, ↓dr_nil, ↓dr_cons, ↓d1_none, ↓d1_some, ↓eff_store, ↓eff_box, ↓eff_alloc, ↓eff_build, ↓eff_buildSlice, ↓eff_call, ↓eff_append, ↓eff_copy, ↓eff_clear, ↓eff_make, ↓reduceIte, ↓c_condI, ↓c_seqH, ↓c_blockH, ↓then_nH, ↓then_rH, ↓then_eH, ↓block_nH, ↓block_rH, ↓block_eH, go_sem, cdCells, bdSV, insSV, inSV, inCells, List.length_map, c1, hg, o17, Int.reduceBEq]
    exact ⟨⟨_, rfl⟩, ids_eff _ _ _ _, h _ _ _ rfl⟩
  by_cases o18 : i.op = 18
  · simp only [o18, Int.reduceEq, if_true, if_false, reduceIte] at h
    simp -implicitDefEqProofs (maxSteps := 2000000) only [↓ops_nil, ↓ops_none, ↓ops_some, ↓kd_eff, ↓dr_nil, ↓dr_cons, ↓d1_none, ↓d1_some, ↓eff_store, ↓eff_box, ↓eff_alloc, ↓eff_build, ↓eff_buildSlice, ↓eff_call, ↓eff_append, ↓eff_copy, ↓eff_clear, ↓eff_make, ↓reduceIte, ↓c_condI, ↓c_seqH, ↓c_blockH, ↓then_nH, ↓then_rH, ↓then_eH, ↓block_nH, ↓block_rH, ↓block_eH, go_sem, cdCells, bdSV, insSV, inSV, inCells, List.length_map, c1, hg, o18, Int.reduceBEq]
    exact ⟨⟨_, rfl⟩, ids_eff _ _ _ _, h _ _ _ rfl⟩
  by_cases o19 : i.op = 19
  · simp only [o19, Int.reduceEq, if_true, if_false, reduceIte] at h
    simp -implicitDefEqProofs (maxSteps := 2000000) only [↓ops_nil, ↓ops_none, ↓ops_some, ↓kd_eff, ↓dr_nil, ↓dr_cons, ↓d1_none, ↓d1_some, ↓eff_store, ↓eff_box, ↓eff_alloc, ↓eff_build, ↓eff_buildSlice, ↓eff_call, ↓eff_append, ↓eff_copy, ↓eff_clear, ↓eff_make, ↓reduceIte, ↓c_condI, ↓c_seqH, ↓c_blockH, ↓then_nH, ↓then_rH, ↓then_eH, ↓block_nH, ↓block_rH, ↓block_eH, go_sem, cdCells, bdSV, insSV, inSV, inCells, List.length_map, c1, hg, o19, Int.reduceBEq]
    exact ⟨⟨_, rfl⟩, ids_eff _ _ _ _, h _ _ _ rfl⟩
  by_cases o20 : i.op = 20
  · simp only [o20, Int.reduceEq, if_true, if_false, reduceIte] at h
    simp -implicitDefEqProofs (maxSteps := 2000000) only [↓ops_nil, ↓ops_none, ↓ops_some, ↓kd_eff, ↓dr_nil, ↓dr_cons, ↓d1_none, ↓d1_some, ↓eff_store, ↓eff_box, ↓eff_alloc, ↓eff_build, ↓eff_buildSlice, ↓eff_call, ↓eff_append, ↓eff_copy, ↓eff_clear, ↓eff_make, ↓reduceIte, ↓c_condI, ↓c_seqH, ↓c_blockH, ↓then_nH, ↓then_rH, ↓then_eH, ↓block_nH, ↓block_rH, ↓block_eH, go_sem, cdCells, bdSV, insSV, inSV, inCells, List.length_map, c1, hg, o20, Int.reduceBEq]
    exact ⟨⟨_, rfl⟩, ids_eff _ _ _ _, h _ _ _ rfl⟩
  by_cases o23 : i.op = 23
  · simp only [o23, Int.reduceEq, if_true, if_false, reduceIte] at h
    simp -implicitDefEqProofs (maxSteps := 2000000) only [↓ops_nil, ↓ops_none, ↓ops_some, ↓kd_eff, ↓dr_nil, ↓dr_cons, ↓d1_none, ↓d1_some, ↓eff_store, ↓eff_box, ↓eff_alloc, ↓eff_build, ↓eff_buildSlice, ↓eff_call, ↓eff_append, ↓eff_copy, ↓eff_clear, ↓eff_make, ↓reduceIte, ↓c_condI, ↓c_seqH, ↓c_blockH, ↓then_nH, ↓then_rH, ↓then_eH, ↓block_nH, ↓block_rH, ↓block_eH, go_sem, cdCells, bdSV, insSV, inSV, inCells, List.length_map, c1, hg, o23, Int.reduceBEq]
    exact ⟨⟨_, rfl⟩, ids_eff _ _ _ _, h _ _ _ rfl⟩
  by_cases o24 : i.op = 24
  · simp only [o24, Int.reduceEq, if_true, if_false, reduceIte] at h
    simp -implicitDefEqProofs (maxSteps := 2000000) only [↓ops_nil, ↓ops_none, ↓ops_some, ↓kd_eff, ↓dr_nil, ↓dr_cons, ↓d1_none, ↓d1_some, ↓eff_store, ↓eff_box, ↓eff_alloc, ↓eff_build, ↓eff_buildSlice, ↓eff_call, ↓eff_append, ↓eff_copy, ↓eff_clear, ↓eff_make, ↓reduceIte, ↓c_condI, ↓c_seqH, ↓c_blockH, ↓then_nH, ↓then_rH, ↓then_eH, ↓block_nH, ↓block_rH, ↓block_eH, go_sem, cdCells, bdSV, insSV, inSV, inCells, List.length_map, c1, hg, o24, Int.reduceBEq]
    exact ⟨⟨_, rfl⟩, ids_eff _ _ _ _, h _ _ _ rfl⟩
  by_cases o25 : i.op = 25
  · simp only [o25, Int.reduceEq, if_true, if_false, reduceIte] at h
    simp -implicitDefEqProofs (maxSteps := 2000000) only [↓ops_nil, ↓ops_none, ↓ops_some, ↓kd_eff, ↓dr_nil, ↓dr_cons, ↓d1_none, ↓d1_some, ↓eff_store, ↓eff_box, ↓eff_alloc, ↓eff_build, ↓eff_buildSlice, ↓eff_call, ↓eff_append, ↓eff_copy, ↓eff_clear, ↓eff_make, ↓reduceIte, ↓c_condI, ↓c_seqH, ↓c_blockH, ↓then_nH, ↓then_rH, ↓then_eH, ↓block_nH, ↓block_rH, ↓block_eH, go_sem, cdCells, bdSV, insSV, inSV, inCells, List.length_map, c1, hg, o25, Int.reduceBEq]
    exact ⟨⟨_, rfl⟩, ids_eff _ _ _ _, h _ _ _ rfl⟩
  by_cases o31 : i.op = 31
  · simp only [o31, Int.reduceEq, if_true, if_false, reduceIte] at h
    simp -implicitDefEqProofs (maxSteps := 2000000) only [↓ops_nil, ↓ops_none, ↓ops_some, ↓kd_eff, ↓dr_nil, ↓dr_cons, ↓d1_none, ↓d1_some, ↓eff_store, ↓eff_box, ↓eff_alloc, ↓eff_build, ↓eff_buildSlice, ↓eff_call, ↓eff_append, ↓eff_copy, ↓eff_clear, ↓eff_make, ↓reduceIte, ↓c_condI, ↓c_seqH, ↓c_blockH, ↓then_nH, ↓then_rH, ↓then_eH, ↓block_nH, ↓block_rH, ↓block_eH, go_sem, cdCells, bdSV, insSV, inSV, inCells, List.length_map, c1, hg, o31, Int.reduceBEq]
    exact ⟨⟨_, rfl⟩, ids_eff _ _ _ _, h _ _ _ rfl⟩
  by_cases o32 : i.op = 32
  · simp only [o32, Int.reduceEq, if_true, if_false, reduceIte] at h
    simp -implicitDefEqProofs (maxSteps := 2000000) only [↓ops_nil, ↓ops_none, ↓ops_some, ↓kd_eff, ↓dr_nil, ↓dr_cons, ↓d1_none, ↓d1_some, ↓eff_store, ↓eff_box, ↓eff_alloc, ↓eff_build, ↓eff_buildSlice, ↓eff_call, ↓eff_append, ↓eff_copy, ↓eff_clear, ↓eff_make, ↓reduceIte, ↓c_condI, ↓c_seqH, ↓c_blockH, ↓then_nH, ↓then_rH, ↓then_eH, ↓block_nH, ↓block_rH, ↓block_eH, go_sem, cdCells, bdSV, insSV, inSV, inCells, List.length_map, c1, hg, o32, Int.reduceBEq]
    exact ⟨⟨_, rfl⟩, ids_eff _ _ _ _, h _ _ _ rfl⟩
  by_cases o33 : i.op = 33
  · simp only [o33, Int.reduceEq, if_true, if_false, reduceIte] at h
    simp -implicitDefEqProofs (maxSteps := 2000000) only [↓ops_nil, ↓ops_none, ↓ops_some, ↓kd_eff, ↓dr_nil, ↓dr_cons, ↓d1_none, ↓d1_some, ↓eff_store, ↓eff_box, ↓eff_alloc, ↓eff_build, ↓eff_buildSlice, ↓eff_call, ↓eff_append, ↓eff_copy, ↓eff_clear, ↓eff_make, ↓reduceIte, ↓c_condI, ↓c_seqH, ↓c_blockH, ↓then_nH, ↓then_rH, ↓then_eH, ↓block_nH, ↓block_rH, ↓block_eH, go_sem, cdCells, bdSV, insSV, inSV, inCells, List.length_map, c1, hg, o33, Int.reduceBEq]
    exact ⟨⟨_, rfl⟩, ids_eff _ _ _ _, h _ _ _ rfl⟩
  have b1 : (i.op == 1) = false := beq_eq_false_iff_ne.2 o1
  have b2 : (i.op == 2) = false := beq_eq_false_iff_ne.2 o2
  have b3 : (i.op == 3) = false := beq_eq_false_iff_ne.2 o3
  have b4 : (i.op == 4) = false := beq_eq_false_iff_ne.2 o4
  have b5 : (i.op == 5) = false := beq_eq_false_iff_ne.2 o5
  have b6 : (i.op == 6) = false := beq_eq_false_iff_ne.2 o6
  have b7 : (i.op == 7) = false := beq_eq_false_iff_ne.2 o7
  have b8 : (i.op == 8) = false := beq_eq_false_iff_ne.2 o8
  have b9 : (i.op == 9) = false := beq_eq_false_iff_ne.2 o9
  have b10 : (i.op == 10) = false := beq_eq_false_iff_ne.2 o10
  have b11 : (i.op == 11) = false := beq_eq_false_iff_ne.2 o11
  have b12 : (i.op == 12) = false := beq_eq_false_iff_ne.2 o12
  have b13 : (i.op == 13) = false := beq_eq_false_iff_ne.2 o13
  have b14 : (i.op == 14) = false := beq_eq_false_iff_ne.2 o14
  have b15 : (i.op == 15) = false := beq_eq_false_iff_ne.2 o15
  have b17 : (i.op == 17) = false := beq_eq_false_iff_ne.2 o17
  have b18 : (i.op == 18) = false := beq_eq_false_iff_ne.2 o18
  have b19 : (i.op == 19) = false := beq_eq_false_iff_ne.2 o19
  have b20 : (i.op == 20) = false := beq_eq_false_iff_ne.2 o20
  have b23 : (i.op == 23) = false := beq_eq_false_iff_ne.2 o23
  have b24 : (i.op == 24) = false := beq_eq_false_iff_ne.2 o24
  have b25 : (i.op == 25) = false := beq_eq_false_iff_ne.2 o25
  have b31 : (i.op == 31) = false := beq_eq_false_iff_ne.2 o31
  have b32 : (i.op == 32) = false := beq_eq_false_iff_ne.2 o32
  have b33 : (i.op == 33) = false := beq_eq_false_iff_ne.2 o33
  simp only [o1, o2, o3, o4, o5, o6, o7, o8, o9, o10, o11, o12, o13, o14, o15, o17, o18, o19, o20, o23, o24, o25, o31, o32, o33, if_false] at h
  simp -implicitDefEqProofs (maxSteps := 2000000) only [↓ops_nil, ↓ops_none, ↓ops_some, ↓kd_eff, ↓dr_nil, ↓dr_cons, ↓d1_none, ↓d1_some, ↓eff_store, ↓eff_box, ↓eff_alloc, ↓eff_build, ↓eff_buildSlice, ↓eff_call, ↓eff_append, ↓eff_copy, ↓eff_clear, ↓eff_make, ↓reduceIte, ↓c_condI, ↓c_seqH, ↓c_blockH, ↓then_nH, ↓then_rH, ↓then_eH, ↓block_nH, ↓block_rH, ↓block_eH, go_sem, cdCells, bdSV, insSV, inSV, inCells, List.length_map, c1, hg, b1, b2, b3, b4, b5, b6, b7, b8, b9, b10, b11, b12, b13, b14, b15, b17, b18, b19, b20, b23, b24, b25, b31, b32, b33]
  exact ⟨⟨_, rfl⟩, ids_eff _ _ _ _, h _ _ _ rfl⟩
end Go.Proofs
