/- The document's way (selvageref15): what it keeps, in memory; one, number. -/
import Derived.Test.YtammbegfobhflaaGreatM7
import Derived.Test.YtammbegfobhflaaGreatM1
import Derived.Test.YtammbegfobhflaaGreatAX
set_option linter.all false
set_option linter.unusedSimpArgs false
set_option linter.unusedVariables false
set_option maxRecDepth 8000
namespace Go.AL
structure RL where
  id : Nat
  ti : Nat
def gOb (L : RL) (g : GR) (v : Nat) : List SV := [.slice .full 0 [], .slice (.own L.ti v) 1 (g.ints.map i64), .slice .full 0 [], .sc (.bool g.many)]
def gW (s : St) (L : RL) (g : GR) (v : Nat) : St := (s.set L.id (.cells (gOb L g v))).set L.ti (.tok v)
structure AtG (s : St) (L : RL) (g : GR) (v : Nat) : Prop where
  o : s[L.id]? = some (.cells (gOb L g v))
  t : s[L.ti]? = some (.tok v)
section
variable {s : St} {L : RL} {g g' : GR} {v v' : Nat}
theorem AtG.ne (h : AtG s L g v) : L.id ≠ L.ti := by intro e; have := h.o; rw [e, h.t] at this; cases this
theorem gW_out {j : Nat} (h : j ≠ L.id) (h2 : j ≠ L.ti) : (gW s L g v)[j]? = s[j]? := by
  unfold gW
  rw [set_get_ne h2, set_get_ne h]
theorem gW_len : (gW s L g v).length = s.length := by simp [gW]
theorem AtG.turn (h : AtG s L g v) (g' : GR) (v' : Nat) : AtG (gW s L g' v') L g' v' := by
  have a := lt_of_get h.o
  have b := lt_of_get h.t
  refine ⟨?_, ?_⟩ <;> unfold gW
  · rw [set_get_ne h.ne, set_get a]
  · rw [set_get (by simpa using b)]
theorem gW_self (h : AtG s L g v) : gW s L g v = s := by
  unfold gW
  have e : s.set L.id (.cells (gOb L g v)) = s := by
    have hlt := lt_of_get h.o
    have := h.o
    rw [List.getElem?_eq_getElem hlt] at this
    rw [← Option.some.inj this]
    exact List.set_getElem_self hlt
  rw [e]
  have hlt := lt_of_get h.t
  have := h.t
  rw [List.getElem?_eq_getElem hlt] at this
  rw [← Option.some.inj this]
  exact List.set_getElem_self hlt
theorem gW_gW (h : AtG s L g v) {g1 : GR} {v1 : Nat} : gW (gW s L g1 v1) L g' v' = gW s L g' v' := by
  unfold gW
  rw [List.set_comm _ _ (Ne.symm h.ne), List.set_set, List.set_set]
theorem gW_app (h : AtG s L g v) (ex : St) : gW (s ++ ex) L g' v' = gW s L g' v' ++ ex := by
  have a := lt_of_get h.o
  have b := lt_of_get h.t
  unfold gW
  rw [List.set_append_left _ _ a, List.set_append_left _ _ (by simpa using b)]
theorem AtG.app (h : AtG s L g v) (ex : St) : AtG (s ++ ex) L g v := ⟨get_app h.o _, get_app h.t _⟩
theorem AtG.set (h : AtG s L g v) {T : Nat} (h1 : T ≠ L.id) (h2 : T ≠ L.ti) (o : Ob) : AtG (s.set T o) L g v := ⟨(set_get_ne (Ne.symm h1)).trans h.o, (set_get_ne (Ne.symm h2)).trans h.t⟩
theorem mod_gW (h : AtG s L g v) : Mod s (gW s L g' v') := by
  have k := h.turn g' v'
  refine ⟨by rw [gW_len]; exact Nat.le_refl _, fun j o ho => ?_⟩
  by_cases e1 : j = L.id
  · subst e1; rw [k.o] at ho; cases ho
    right
    rw [obIds_cells]
    simp only [gOb, List.forall_mem_cons]
    refine ⟨ids_nil _ _ _ (.inr rfl), .slice _ _ _ (fun id ver e => by cases e; rw [gW_len]; exact lt_of_get h.t) fun i q hi hq => ?_, ids_nil _ _ _ (.inr rfl), .sc _, fun x hx => by cases hx⟩
    have e2 : (g'.ints.map i64).getD i .any = i64 (g'.ints[i]'(by simpa using hi)) := by simp [List.getD_eq_getElem?_getD, show i < g'.ints.length by simpa using hi]
    rw [e2]
    match q with
    | 0 => exact .sc _
    | q + 1 => exact .any
  by_cases e2 : j = L.ti
  · subst e2; rw [k.t] at ho; cases ho; exact .inr trivial
  rw [gW_out e1 e2] at ho
  exact .inl ho
theorem AtG.facts (h : AtG s L g v) : (inS s L.id = True ∧ isObj s L.id = True ∧ objAt s L.id = gOb L g v) ∧ (inS s L.ti = True ∧ tokAt s L.ti v = True) :=
  ⟨cells_facts h.o, ⟨inS_of h.t, by rw [tokAt_eq h.t]; simp⟩⟩
end
end Go.AL
namespace Go.Proofs
open Go Go.AL
theorem one_c (a b c : Int) (K : SV → St → Prop) (st : St) (h : K (.agg [i64 a, i64 b, i64 c]) st) : ACalls Tryz.prog 29 [i64 a, i64 b, i64 c] K st := by
  refine acalls_go_pure [] Tryz.func29 rfl Tryz.results29 Tryz.ntmps29 ?_
  simp -implicitDefEqProofs (maxSteps := 2000000) only [↓ops_nil, ↓ops_none, ↓ops_some, ↓kd_eff, ↓dr_nil, ↓dr_cons, ↓d1_none, ↓d1_some, ↓eff_store, ↓eff_box, ↓eff_alloc, ↓eff_build, ↓eff_buildSlice, ↓eff_call, ↓eff_append, ↓eff_copy, ↓eff_clear, ↓eff_make, ↓reduceIte, ↓c_condI, ↓c_seqH, ↓c_blockH, ↓then_nH, ↓then_rH, ↓then_eH, ↓block_nH, ↓block_rH, ↓block_eH, go_sem]
  refine ⟨⟨_, rfl⟩, ?_, h⟩
  show Ids _ (inSV ⟨a, b, c⟩)
  exact ids_in _ _
set_option maxHeartbeats 4000000 in
theorem number_c {s : St} {L : RL} {g : GR} {v : Nat} (hA : AtG s L g v) (n : Int) (hl : g.ints.length ≤ 10000) (K : SV → St → Prop) (h : ∀ v', K (i64 (intR n g).1) (gW s L (intR n g).2 v')) : ACalls Tryz.prog 33 [.ptr L.id 0, i64 n] K s := by
  obtain ⟨⟨q1, q2, q3⟩, ⟨q4, q5⟩⟩ := hA.facts
  have happ := Tryz.app24 (n := g.ints.length + 1) (by omega)
  refine acalls_go (M := []) Tryz.func33 rfl Tryz.results33 Tryz.ntmps33 ?_
  simp -implicitDefEqProofs (maxSteps := 2000000) only [↓ops_nil, ↓ops_none, ↓ops_some, ↓kd_eff, ↓dr_nil, ↓dr_cons, ↓d1_none, ↓d1_some, ↓eff_store, ↓eff_box, ↓eff_alloc, ↓eff_build, ↓eff_buildSlice, ↓eff_call, ↓eff_append, ↓eff_copy, ↓eff_clear, ↓eff_make, ↓reduceIte, ↓c_condI, ↓c_seqH, ↓c_blockH, ↓then_nH, ↓then_rH, ↓then_eH, ↓block_nH, ↓block_rH, ↓block_eH, go_sem]
  refine awp_rounds [] (fun b e s' => ∃ k, k + b = g.ints.length ∧ (∀ j, j < k → (g.ints.getD j 0 == n) = false) ∧ e = [.ptr L.id 0, i64 n, .any, .any, .any, i64 k, .any, .any, .any, .any, .any, .any, .any, .any, .any, .any, .any, .any, .any, .any, .any, .any, .any, .any, .any, .any, .any, .any, .any, .any, .any, .any, .any, .any, .any, .any, .any, .any, .any, .any, .any] ∧ s' = s) (n := g.ints.length) ?_ ⟨0, by omega, fun j hj => by omega, rfl, rfl⟩ ?_
  · repeat (first | exact leEnv_nil | refine leEnv_any _ ?_ | refine leEnv_same _ ?_ | refine leEnv_norm _ ?_)
  rintro b e s' ⟨k, hk, hall, rfl, rfl⟩
  by_cases hlt : k < g.ints.length
  · have d1 : (k : Int) < (g.ints.length : Int) := by omega
    have hgk : (g.ints.map i64).getD k .any = i64 (g.ints.getD k 0) := by simp [List.getD_eq_getElem?_getD, hlt]
    have hw : IntKind.i64.wrap ((k : Int) + 1) = ((k + 1 : Nat) : Int) := by rw [IntWalk.i64_in _ (by omega)]; rfl
    cases hb : (g.ints.getD k 0 == n) with
    | true =>
      have hf : g.ints.findIdx? (· == n) = some k := by
        rw [List.findIdx?_eq_some_iff_getElem]
        refine ⟨hlt, by simpa [List.getD_eq_getElem?_getD, hlt] using hb, fun j hj => ?_⟩
        have := hall j hj
        simpa [List.getD_eq_getElem?_getD, show j < g.ints.length by omega] using this
      have e1 : intR n g = (k, g) := by unfold intR; rw [hf]
      have h := h v
      rw [e1, gW_self hA] at h
      simp -implicitDefEqProofs (maxSteps := 2000000) only [↓ops_nil, ↓ops_none, ↓ops_some, ↓kd_eff, ↓dr_nil, ↓dr_cons, ↓d1_none, ↓d1_some, ↓eff_store, ↓eff_box, ↓eff_alloc, ↓eff_build, ↓eff_buildSlice, ↓eff_call, ↓eff_append, ↓eff_copy, ↓eff_clear, ↓eff_make, ↓reduceIte, ↓c_condI, ↓c_seqH, ↓c_blockH, ↓then_nH, ↓then_rH, ↓then_eH, ↓block_nH, ↓block_rH, ↓block_eH, go_sem, q1, q2, q3, gOb, List.length_map, d1, hgk, hb]
      exact h
    | false =>
      simp -implicitDefEqProofs (maxSteps := 2000000) only [↓ops_nil, ↓ops_none, ↓ops_some, ↓kd_eff, ↓dr_nil, ↓dr_cons, ↓d1_none, ↓d1_some, ↓eff_store, ↓eff_box, ↓eff_alloc, ↓eff_build, ↓eff_buildSlice, ↓eff_call, ↓eff_append, ↓eff_copy, ↓eff_clear, ↓eff_make, ↓reduceIte, ↓c_condI, ↓c_seqH, ↓c_blockH, ↓then_nH, ↓then_rH, ↓then_eH, ↓block_nH, ↓block_rH, ↓block_eH, go_sem, q1, q2, q3, gOb, List.length_map, d1, hgk, hb, hw]
      refine ⟨b - 1, _, by omega, ?_, k + 1, by omega, fun j hj => ?_, rfl⟩
      · repeat (first | exact leEnv_nil | refine leEnv_any _ ?_ | refine leEnv_same _ ?_ | refine leEnv_norm _ ?_)
      rcases Nat.lt_or_ge j k with h1 | h1
      · exact hall j h1
      · rwa [show j = k by omega]
  · obtain rfl : k = g.ints.length := by omega
    have d1 : ¬ (g.ints.length : Int) < (g.ints.length : Int) := by omega
    have hf : g.ints.findIdx? (· == n) = none := by
      rw [List.findIdx?_eq_none_iff]
      intro x hx
      obtain ⟨j, hj, rfl⟩ := List.getElem_of_mem hx
      have := hall j hj
      simpa [List.getD_eq_getElem?_getD, hj] using this
    have e1 : intR n g = (g.ints.length, { g with ints := g.ints ++ [n] }) := by unfold intR; rw [hf]
    have h := h (v + 1)
    rw [e1] at h
    have hw : IntKind.i64.wrap (((g.ints.length + 1 : Nat) : Int) - 1) = (g.ints.length : Int) := by rw [IntWalk.i64_in _ (by omega)]; omega
    obtain ⟨S2, hS2⟩ : ∃ S2, s'.set L.ti (.tok (v + 1)) = S2 := ⟨_, rfl⟩
    have hne := hA.ne
    have o2 : S2[L.id]? = some (.cells (gOb L g v)) := by rw [← hS2, set_get_ne hne]; exact hA.o
    have r2 := cells_facts o2
    obtain ⟨S3, hS3⟩ : ∃ S3, S2.set L.id (.cells [.slice .full 0 [], .slice (.own L.ti (v + 1)) 1 (g.ints.map i64 ++ [i64 n]), .slice .full 0 [], .sc (.bool g.many)]) = S3 := ⟨_, rfl⟩
    have r3 := cells_facts (show S3[L.id]? = some (.cells [.slice .full 0 [], .slice (.own L.ti (v + 1)) 1 (g.ints.map i64 ++ [i64 n]), .slice .full 0 [], .sc (.bool g.many)]) by rw [← hS3, set_get (lt_of_get o2)])
    have e3 : gW s' L { g with ints := g.ints ++ [n] } (v + 1) = S3 := by
      rw [← hS3, ← hS2]
      unfold gW gOb
      rw [List.set_comm _ _ hne, List.map_append]
      rfl
    rw [e3] at h
    simp -implicitDefEqProofs (maxSteps := 2000000) only [↓ops_nil, ↓ops_none, ↓ops_some, ↓kd_eff, ↓dr_nil, ↓dr_cons, ↓d1_none, ↓d1_some, ↓eff_store, ↓eff_box, ↓eff_alloc, ↓eff_build, ↓eff_buildSlice, ↓eff_call, ↓eff_append, ↓eff_copy, ↓eff_clear, ↓eff_make, ↓reduceIte, ↓c_condI, ↓c_seqH, ↓c_blockH, ↓then_nH, ↓then_rH, ↓then_eH, ↓block_nH, ↓block_rH, ↓block_eH, go_sem, q1, q2, q3, gOb, List.length_map, d1, q4, q5, hS2, r2.1, r2.2.1, r2.2.2, hS3, r3.1, r3.2.1, r3.2.2, hw]
    exact ⟨happ, h⟩
end Go.Proofs
set_option linter.unusedSimpArgs false
set_option linter.unusedVariables false
set_option maxRecDepth 8000
namespace Go.AL
theorem ids_in1 (n : Nat) (l : List In) : ∀ x ∈ l.map inSV, ∀ y ∈ x.cells, Ids n y := by
  intro x hx y hy
  obtain ⟨a, _, rfl⟩ := List.mem_map.1 hx
  simp only [inSV, inCells, SV.cells, List.mem_cons, List.not_mem_nil, or_false] at hy
  rcases hy with rfl | rfl | rfl <;> exact .sc _
theorem coSV_leaf (m : Int) : coSV (leafC m) = .agg [i64 1, i64 m, str ⟨#[]⟩, .slice .imm 9 [], i64 0, .slice .imm 1 [], .slice .imm 6 [], .slice .imm 4 [], .slice .imm 1 []] := rfl
section
variable {s : St} {L : RL} {g g' : GR} {v v' T tv : Nat} {K : SV → St → Prop}
/-- The end of a call that hands back instructions. -/
theorem fin_own (hA : AtG s L g v) (hT : s[T]? = some (.tok tv)) (hTi : T ≠ L.ti) {l : List In} {ex : St} {Tn vn : Nat} (hn : (gW s L g' v' ++ ex)[Tn]? = some (.tok vn)) (hle : s.length ≤ Tn) (h : K (.slice (.own T (tv + 1)) 3 (l.map inSV)) ((gW s L g' v').set T (.tok (tv + 1)))) :
    FinO s T 3 K (.slice (.own Tn vn) 3 (l.map inSV)) (gW s L g' v' ++ ex) := by
  have hTd : T ≠ L.id := by intro e; have := hA.o; rw [← e, hT] at this; cases this
  exact ⟨_, ex, _, _, _, tv, rfl, rfl, mod_gW hA, (gW_out hTd hTi).trans hT, h, .inl ⟨Tn, vn, rfl, rfl, hn, by rw [gW_len]; exact hle⟩, ids_in1 _ _⟩
theorem fin_nil (hA : AtG s L g v) (hT : s[T]? = some (.tok tv)) (hTi : T ≠ L.ti) {z : Nat} (h : K (.slice (.own T (tv + 1)) 3 (([] : List In).map inSV)) ((gW s L g' v').set T (.tok (tv + 1)))) :
    FinO s T 3 K (.slice .full z []) (gW s L g' v') := by
  have hTd : T ≠ L.id := by intro e; have := hA.o; rw [← e, hT] at this; cases this
  exact ⟨_, [], _, _, _, tv, rfl, (List.append_nil _).symm, mod_gW hA, (gW_out hTd hTi).trans hT, h, .inr ⟨rfl, rfl⟩, fun x hx => by cases hx⟩
end
end Go.AL
namespace Go.Proofs
open Go Go.AL
theorem Tryz.app49 {n : Nat} (h : n ≤ 1000000) : AppOk Tryz.prog 49 49 3 n := appOk_of Tryz.aelem49 Tryz.aelem49 Tryz.asize56 Tryz.azero56 rfl Tryz.abytes56 (by omega) h
set_option maxHeartbeats 4000000 in
theorem expL_c (d : Nat) {s : St} {L : RL} {g : GR} {v : Nat} (hA : AtG s L g v) {T tv : Nat} (hT : s[T]? = some (.tok tv)) (hTi : T ≠ L.ti) (m : Int) (base : Nat) (last : Bool) (hb : base ≤ 100000) (hl : g.ints.length ≤ 10000) (K : SV → St → Prop)
    (h : ∀ v', K (.slice (.own T (tv + 1)) 3 ((expR (d + 1) (leafC m) base last g).1.map inSV)) ((gW s L (expR (d + 1) (leafC m) base last g).2 v').set T (.tok (tv + 1)))) :
    ACalls Tryz.prog 13 [.ptr L.id 0, coSV (leafC m), i64 base, .sc (.bool last)] K s := by
  rw [expR_leaf] at h
  obtain ⟨⟨q1, q2, q3⟩, ⟨q4, q5⟩⟩ := hA.facts
  have happ1 := Tryz.app49 (n := 1) (by omega)
  have happ2 := Tryz.app49 (n := 2) (by omega)
  refine acalls_goO T 3 (M := []) Tryz.func13 rfl Tryz.results13 Tryz.ntmps13 ?_
  rw [coSV_leaf]
  by_cases hc : 400 < base
  · have e : manyX g base = { g with many := true } := by unfold manyX; rw [if_pos hc]
    rw [e] at h
    simp only [if_true] at h
    have d1 : (400 : Int) < (base : Int) := by omega
    obtain ⟨S2, hS2⟩ : ∃ S2, s.set L.id (.cells [.slice .full 0 [], .slice (.own L.ti v) 1 (g.ints.map i64), .slice .full 0 [], .sc (.bool true)]) = S2 := ⟨_, rfl⟩
    have e2 : gW s L { g with many := true } v = S2 := by
      rw [← hS2]
      unfold gW gOb
      rw [List.set_comm _ _ hA.ne]
      have hlt := lt_of_get hA.t
      have := hA.t
      rw [List.getElem?_eq_getElem hlt] at this
      rw [← Option.some.inj this, List.set_getElem_self]
    have r2 := cells_facts (show S2[L.id]? = some (.cells [.slice .full 0 [], .slice (.own L.ti v) 1 (g.ints.map i64), .slice .full 0 [], .sc (.bool true)]) by rw [← hS2, set_get (lt_of_get hA.o)])
    simp -implicitDefEqProofs (maxSteps := 2000000) only [↓ops_nil, ↓ops_none, ↓ops_some, ↓kd_eff, ↓dr_nil, ↓dr_cons, ↓d1_none, ↓d1_some, ↓eff_store, ↓eff_box, ↓eff_alloc, ↓eff_build, ↓eff_buildSlice, ↓eff_call, ↓eff_append, ↓eff_copy, ↓eff_clear, ↓eff_make, ↓reduceIte, ↓c_condI, ↓c_seqH, ↓c_blockH, ↓then_nH, ↓then_rH, ↓then_eH, ↓block_nH, ↓block_rH, ↓block_eH, go_sem, d1, q1, q2, q3, gOb, hS2, r2.1, r2.2.1, r2.2.2]
    rw [← e2]
    exact fin_nil hA hT hTi (h v)
  have e : manyX g base = g := by unfold manyX; rw [if_neg hc]
  rw [e] at h
  have d1 : ¬ (400 : Int) < (base : Int) := by omega
  obtain ⟨mn, hmn⟩ : ∃ mn, g.many = mn := ⟨_, rfl⟩
  cases mn with
  | true =>
    rw [hmn] at h
    simp only [if_true] at h
    simp -implicitDefEqProofs (maxSteps := 2000000) only [↓ops_nil, ↓ops_none, ↓ops_some, ↓kd_eff, ↓dr_nil, ↓dr_cons, ↓d1_none, ↓d1_some, ↓eff_store, ↓eff_box, ↓eff_alloc, ↓eff_build, ↓eff_buildSlice, ↓eff_call, ↓eff_append, ↓eff_copy, ↓eff_clear, ↓eff_make, ↓reduceIte, ↓c_condI, ↓c_seqH, ↓c_blockH, ↓then_nH, ↓then_rH, ↓then_eH, ↓block_nH, ↓block_rH, ↓block_eH, go_sem, d1, q1, q2, q3, gOb, hmn]
    have := fin_nil (g' := g) (v' := v) hA hT hTi (z := 0) (h v)
    rw [gW_self hA] at this
    exact this
  | false =>
    rw [hmn] at h
    simp only [Bool.false_eq_true, if_false] at h
    simp -implicitDefEqProofs (maxSteps := 2000000) only [↓ops_nil, ↓ops_none, ↓ops_some, ↓kd_eff, ↓dr_nil, ↓dr_cons, ↓d1_none, ↓d1_some, ↓eff_store, ↓eff_box, ↓eff_alloc, ↓eff_build, ↓eff_buildSlice, ↓eff_call, ↓eff_append, ↓eff_copy, ↓eff_clear, ↓eff_make, ↓reduceIte, ↓c_condI, ↓c_seqH, ↓c_blockH, ↓then_nH, ↓then_rH, ↓then_eH, ↓block_nH, ↓block_rH, ↓block_eH, go_sem, d1, q1, q2, q3, gOb, hmn, Int.reduceBEq]
    refine number_c hA m hl _ fun v1 => ?_
    simp -implicitDefEqProofs (maxSteps := 2000000) only [↓ops_nil, ↓ops_none, ↓ops_some, ↓kd_eff, ↓dr_nil, ↓dr_cons, ↓d1_none, ↓d1_some, ↓eff_store, ↓eff_box, ↓eff_alloc, ↓eff_build, ↓eff_buildSlice, ↓eff_call, ↓eff_append, ↓eff_copy, ↓eff_clear, ↓eff_make, ↓reduceIte, ↓c_condI, ↓c_seqH, ↓c_blockH, ↓then_nH, ↓then_rH, ↓then_eH, ↓block_nH, ↓block_rH, ↓block_eH, go_sem]
    refine one_c _ _ _ _ _ ?_
    cases last with
    | false =>
      simp only [Bool.false_eq_true, if_false] at h
      simp -implicitDefEqProofs (maxSteps := 2000000) only [↓ops_nil, ↓ops_none, ↓ops_some, ↓kd_eff, ↓dr_nil, ↓dr_cons, ↓d1_none, ↓d1_some, ↓eff_store, ↓eff_box, ↓eff_alloc, ↓eff_build, ↓eff_buildSlice, ↓eff_call, ↓eff_append, ↓eff_copy, ↓eff_clear, ↓eff_make, ↓reduceIte, ↓c_condI, ↓c_seqH, ↓c_blockH, ↓then_nH, ↓then_rH, ↓then_eH, ↓block_nH, ↓block_rH, ↓block_eH, go_sem]
      refine ⟨happ1, ?_⟩
      exact fin_own hA hT hTi (l := [⟨1, (intR m g).1, 0⟩]) (ex := [.tok 0]) (Tn := (gW s L (intR m g).2 v1).length) (vn := 0) (by simp) (by rw [gW_len]; exact Nat.le_refl _) (h v1)
    | true =>
      simp only [if_true] at h
      simp -implicitDefEqProofs (maxSteps := 2000000) only [↓ops_nil, ↓ops_none, ↓ops_some, ↓kd_eff, ↓dr_nil, ↓dr_cons, ↓d1_none, ↓d1_some, ↓eff_store, ↓eff_box, ↓eff_alloc, ↓eff_build, ↓eff_buildSlice, ↓eff_call, ↓eff_append, ↓eff_copy, ↓eff_clear, ↓eff_make, ↓reduceIte, ↓c_condI, ↓c_seqH, ↓c_blockH, ↓then_nH, ↓then_rH, ↓then_eH, ↓block_nH, ↓block_rH, ↓block_eH, go_sem]
      refine ⟨happ1, one_c _ _ _ _ _ ?_⟩
      have qt : tokAt (gW s L (intR m g).2 v1 ++ [Ob.tok 0]) (gW s L (intR m g).2 v1).length 0 = True := eq_true (by simp [tokAt])
      have ht : (gW s L (intR m g).2 v1 ++ [Ob.tok 0]).set (gW s L (intR m g).2 v1).length (.tok 1) = gW s L (intR m g).2 v1 ++ [.tok 1] := by simp
      simp -implicitDefEqProofs (maxSteps := 2000000) only [↓ops_nil, ↓ops_none, ↓ops_some, ↓kd_eff, ↓dr_nil, ↓dr_cons, ↓d1_none, ↓d1_some, ↓eff_store, ↓eff_box, ↓eff_alloc, ↓eff_build, ↓eff_buildSlice, ↓eff_call, ↓eff_append, ↓eff_copy, ↓eff_clear, ↓eff_make, ↓reduceIte, ↓c_condI, ↓c_seqH, ↓c_blockH, ↓then_nH, ↓then_rH, ↓then_eH, ↓block_nH, ↓block_rH, ↓block_eH, go_sem, qt, ht]
      refine ⟨happ2, ?_⟩
      exact fin_own hA hT hTi (l := [⟨1, (intR m g).1, 0⟩, ⟨15, 0, 0⟩]) (ex := [.tok 1]) (Tn := (gW s L (intR m g).2 v1).length) (vn := 1) (by simp) (by rw [gW_len]; exact Nat.le_refl _) (h v1)
end Go.Proofs
set_option linter.unusedSimpArgs false
set_option linter.unusedVariables false
set_option maxRecDepth 8000
namespace Go.AL
theorem cells_leaf (m : Int) : (coSV (leafC m)).cells = [i64 1, i64 m, str ⟨#[]⟩, .slice .imm 9 [], i64 0, .slice .imm 1 [], .slice .imm 6 [], .slice .imm 4 [], .slice .imm 1 []] := rfl
theorem coSV_seq (kind n : Nat) (hk : kind ≠ 1) : coSV (manyC kind (n + 1)) = .agg [i64 15, i64 0, str ⟨#[]⟩, .slice .imm 9 [coSV (leafC ((n + 1 : Int) * (kind / 2 : Nat))), coSV (manyC kind n)], i64 0, .slice .imm 1 [], .slice .imm 6 [], .slice .imm 4 [], .slice .imm 1 []] := by
  rw [manyC_succ, if_neg hk]; rfl
theorem coSV_op (n : Nat) : coSV (manyC 1 (n + 1)) = .agg [i64 14, i64 0, str ⟨⟨[43]⟩⟩, .slice .imm 9 [coSV (leafC ((n + 1 : Int) * (1 / 2 : Nat))), coSV (manyC 1 n)], i64 0, .slice .imm 1 [], .slice .imm 6 [], .slice .imm 4 [], .slice .imm 1 []] := rfl
section
variable {s : St} {L : RL} {g g' : GR} {v v' : Nat}
theorem gWT (hA : AtG s L g v) (k : Nat) : (gW (s ++ [Ob.tok 0]) L g' v').set s.length (.tok k) = gW s L g' v' ++ [.tok k] := by
  rw [gW_app hA, List.set_append_right _ _ (by rw [gW_len]; exact Nat.le_refl _), gW_len, Nat.sub_self]
  rfl
end
end Go.AL
namespace Go.Proofs
open Go Go.AL
theorem cell_co (c : Co) : cellsOf Tryz.prog 30 (coSV c).cells = some (coSV c) := cellsOf_co c Tryz.aagg30 Tryz.asize30
/-- What the way through a core is. -/
def GoR (d : Nat) (c : Co) (Bd : Nat) (Bi : Nat) : Prop := ∀ {s : St} {L : RL} {g : GR} {v : Nat}, AtG s L g v → ∀ {T tv : Nat}, s[T]? = some (.tok tv) → T ≠ L.ti → ∀ (base : Nat) (last : Bool), base ≤ Bd → g.ints.length ≤ Bi → ∀ K : SV → St → Prop,
    (∀ v', K (.slice (.own T (tv + 1)) 3 ((expR d c base last g).1.map inSV)) ((gW s L (expR d c base last g).2 v').set T (.tok (tv + 1)))) →
    ACalls Tryz.prog 13 [.ptr L.id 0, coSV c, i64 base, .sc (.bool last)] K s
theorem goR_leaf (d : Nat) (m : Int) (Bd Bi : Nat) (h1 : Bd ≤ 100000) (h2 : Bi ≤ 10000) : GoR (d + 1) (leafC m) Bd Bi := fun hA T tv hT hTi base last hb hl K h => expL_c d hA hT hTi m base last (by omega) (by omega) K h
set_option maxHeartbeats 4000000 in
theorem rseq_c (d kind n : Nat) (hk : kind ≠ 1) (hn : n ≤ 1000) (hd : n < d + 1) (Bd Bi : Nat) (h1 : Bd + 10 ≤ 100000) (h2 : Bi + 10 ≤ 10000) (ih : GoR (d + 1) (manyC kind n) (Bd + 3) (Bi + 1)) : GoR (d + 2) (manyC kind (n + 1)) Bd Bi := by
  intro s L g v hA T tv hT hTi base last hb hl K h
  rw [expR_seq _ _ _ hk] at h
  obtain ⟨⟨q1, q2, q3⟩, ⟨q4, q5⟩⟩ := hA.facts
  refine acalls_goO T 3 (M := []) Tryz.func13 rfl Tryz.results13 Tryz.ntmps13 ?_
  rw [coSV_seq _ _ hk]
  obtain ⟨x, hx⟩ : ∃ x, (n + 1 : Int) * (kind / 2 : Nat) = x := ⟨_, rfl⟩
  rw [hx] at h ⊢
  by_cases hc : 400 < base
  · have e : manyX g base = { g with many := true } := by unfold manyX; rw [if_pos hc]
    rw [e] at h
    simp only [if_true] at h
    have d1 : (400 : Int) < (base : Int) := by omega
    obtain ⟨S2, hS2⟩ : ∃ S2, s.set L.id (.cells [.slice .full 0 [], .slice (.own L.ti v) 1 (g.ints.map i64), .slice .full 0 [], .sc (.bool true)]) = S2 := ⟨_, rfl⟩
    have e2 : gW s L { g with many := true } v = S2 := by
      rw [← hS2]
      unfold gW gOb
      rw [List.set_comm _ _ hA.ne]
      have hlt := lt_of_get hA.t
      have := hA.t
      rw [List.getElem?_eq_getElem hlt] at this
      rw [← Option.some.inj this, List.set_getElem_self]
    have r2 := cells_facts (show S2[L.id]? = some (.cells [.slice .full 0 [], .slice (.own L.ti v) 1 (g.ints.map i64), .slice .full 0 [], .sc (.bool true)]) by rw [← hS2, set_get (lt_of_get hA.o)])
    simp -implicitDefEqProofs (maxSteps := 2000000) only [↓ops_nil, ↓ops_none, ↓ops_some, ↓kd_eff, ↓dr_nil, ↓dr_cons, ↓d1_none, ↓d1_some, ↓eff_store, ↓eff_box, ↓eff_alloc, ↓eff_build, ↓eff_buildSlice, ↓eff_call, ↓eff_append, ↓eff_copy, ↓eff_clear, ↓eff_make, ↓reduceIte, ↓c_condI, ↓c_seqH, ↓c_blockH, ↓then_nH, ↓then_rH, ↓then_eH, ↓block_nH, ↓block_rH, ↓block_eH, go_sem, d1, q1, q2, q3, gOb, hS2, r2.1, r2.2.1, r2.2.2]
    rw [← e2]
    exact fin_nil hA hT hTi (h v)
  have e : manyX g base = g := by unfold manyX; rw [if_neg hc]
  rw [e] at h
  have d1 : ¬ (400 : Int) < (base : Int) := by omega
  obtain ⟨mn, hmn⟩ : ∃ mn, g.many = mn := ⟨_, rfl⟩
  cases mn with
  | true =>
    rw [hmn] at h
    simp only [if_true] at h
    simp -implicitDefEqProofs (maxSteps := 2000000) only [↓ops_nil, ↓ops_none, ↓ops_some, ↓kd_eff, ↓dr_nil, ↓dr_cons, ↓d1_none, ↓d1_some, ↓eff_store, ↓eff_box, ↓eff_alloc, ↓eff_build, ↓eff_buildSlice, ↓eff_call, ↓eff_append, ↓eff_copy, ↓eff_clear, ↓eff_make, ↓reduceIte, ↓c_condI, ↓c_seqH, ↓c_blockH, ↓then_nH, ↓then_rH, ↓then_eH, ↓block_nH, ↓block_rH, ↓block_eH, go_sem, d1, q1, q2, q3, gOb, hmn]
    have := fin_nil (g' := g) (v' := v) hA hT hTi (z := 0) (h v)
    rw [gW_self hA] at this
    exact this
  | false =>
    rw [hmn] at h
    simp only [Bool.false_eq_true, if_false] at h
    have hl1 := leaf_len d x base false g
    obtain ⟨o1, g1, hx1⟩ : ∃ o1 g1, expR (d + 1) (leafC x) base false g = (o1, g1) := ⟨_, _, rfl⟩
    rw [hx1] at hl1 h
    simp only at hl1 h
    have hl2 := many_len kind n (d + 1) (base + (o1 ++ [(⟨9, 0, 0⟩ : In)]).length) last g1 hd
    obtain ⟨o2, g2, hx2⟩ : ∃ o2 g2, expR (d + 1) (manyC kind n) (base + (o1 ++ [(⟨9, 0, 0⟩ : In)]).length) last g1 = (o2, g2) := ⟨_, _, rfl⟩
    rw [hx2] at hl2 h
    simp only at hl2 h
    have n2 : ((0 : Int) < ((2 : Nat) : Int)) = True := eq_true (by decide)
    have n3 : ((1 : Int) < ((2 : Nat) : Int)) = True := eq_true (by decide)
    have t0 : Int.toNat 1 = 1 := rfl
    simp -implicitDefEqProofs (maxSteps := 2000000) only [↓ops_nil, ↓ops_none, ↓ops_some, ↓kd_eff, ↓dr_nil, ↓dr_cons, ↓d1_none, ↓d1_some, ↓eff_store, ↓eff_box, ↓eff_alloc, ↓eff_build, ↓eff_buildSlice, ↓eff_call, ↓eff_append, ↓eff_copy, ↓eff_clear, ↓eff_make, ↓reduceIte, ↓c_condI, ↓c_seqH, ↓c_blockH, ↓then_nH, ↓then_rH, ↓then_eH, ↓block_nH, ↓block_rH, ↓block_eH, go_sem, d1, q1, q2, q3, gOb, hmn, Int.reduceBEq, cell_co, n2]
    refine acalls_view view_tok ?_
    refine expL_c d (hA.app [.tok 0]) (T := s.length) (tv := 0) (by simp) (by have := lt_of_get hA.t; omega) x base false (by omega) (by omega) _ fun v1 => ?_
    rw [hx1]
    simp only
    rw [gWT hA]
    have e1 : o1.length + 1 ≤ 1000000 := by omega
    have happ1 := Tryz.app49 e1
    simp -implicitDefEqProofs (maxSteps := 2000000) only [↓ops_nil, ↓ops_none, ↓ops_some, ↓kd_eff, ↓dr_nil, ↓dr_cons, ↓d1_none, ↓d1_some, ↓eff_store, ↓eff_box, ↓eff_alloc, ↓eff_build, ↓eff_buildSlice, ↓eff_call, ↓eff_append, ↓eff_copy, ↓eff_clear, ↓eff_make, ↓reduceIte, ↓c_condI, ↓c_seqH, ↓c_blockH, ↓then_nH, ↓then_rH, ↓then_eH, ↓block_nH, ↓block_rH, ↓block_eH, go_sem, Int.reduceBEq, cells_leaf, Int.reduceBNe, n2]
    refine one_c _ _ _ _ _ ?_
    have hN : (gW s L g1 v1).length = s.length := gW_len
    have qt : tokAt (gW s L g1 v1 ++ [Ob.tok 1]) s.length 1 = True := eq_true (by simp [tokAt, ← hN])
    have ht : (gW s L g1 v1 ++ [Ob.tok 1]).set s.length (.tok 2) = gW s L g1 v1 ++ [.tok 2] := by rw [← hN]; simp
    have hA1 : AtG (gW s L g1 v1 ++ [Ob.tok 2]) L g1 v1 := (hA.turn g1 v1).app _
    have hl1' : (gW s L g1 v1 ++ [Ob.tok 2]).length = s.length + 1 := by simp [hN]
    have hwb : IntKind.i64.wrap ((base : Int) + ((o1.length + 1 : Nat) : Int)) = ((base + (o1 ++ [(⟨9, 0, 0⟩ : In)]).length : Nat) : Int) := by rw [IntWalk.i64_in _ (by omega)]; simp
    simp -implicitDefEqProofs (maxSteps := 2000000) only [↓ops_nil, ↓ops_none, ↓ops_some, ↓kd_eff, ↓dr_nil, ↓dr_cons, ↓d1_none, ↓d1_some, ↓eff_store, ↓eff_box, ↓eff_alloc, ↓eff_build, ↓eff_buildSlice, ↓eff_call, ↓eff_append, ↓eff_copy, ↓eff_clear, ↓eff_make, ↓reduceIte, ↓c_condI, ↓c_seqH, ↓c_blockH, ↓then_nH, ↓then_rH, ↓then_eH, ↓block_nH, ↓block_rH, ↓block_eH, go_sem, qt, ht, List.length_map, n3, t0, cell_co, hwb]
    have hlen : (o1 ++ [(⟨9, 0, 0⟩ : In)]).length = o1.length + 1 := by simp
    rw [hlen] at hx2
    have hst : ∀ v2, (gW ((gW s L g1 v1 ++ [Ob.tok 2]) ++ [Ob.tok 0]) L g2 v2).set (s.length + 1) (.tok 1) = gW s L g2 v2 ++ [.tok 2, .tok 1] := fun v2 => by
      have hAt := hA.turn g1 v1
      rw [gW_app hA1, gW_app hAt, gW_gW hA, List.append_assoc, List.set_append_right _ _ (by rw [gW_len]; omega), gW_len]
      rw [show s.length + 1 - s.length = 1 by omega]
      rfl
    have hN2 : ∀ v2, (gW s L g2 v2).length = s.length := fun v2 => gW_len
    refine ⟨happ1, acalls_view view_tok ?_⟩
    refine ih (hA1.app [.tok 0]) (T := s.length + 1) (tv := 0) (by rw [← hl1']; simp) (by have := lt_of_get hA.t; omega) (base + (o1.length + 1)) last (by omega) (by omega) _ fun v2 => ?_
    rw [hx2]
    simp only
    rw [hst]
    have qt2 : tokAt (gW s L g2 v2 ++ [Ob.tok 2, Ob.tok 1]) s.length 2 = True := eq_true (by simp [tokAt, ← hN2 v2])
    have ht2 : (gW s L g2 v2 ++ [Ob.tok 2, Ob.tok 1]).set s.length (.tok 3) = gW s L g2 v2 ++ [.tok 3, .tok 1] := by rw [← hN2 v2]; simp
    have happ2 := Tryz.app49 (n := o1.length + (1 + o2.length)) (by omega)
    simp -implicitDefEqProofs (maxSteps := 2000000) only [↓ops_nil, ↓ops_none, ↓ops_some, ↓kd_eff, ↓dr_nil, ↓dr_cons, ↓d1_none, ↓d1_some, ↓eff_store, ↓eff_box, ↓eff_alloc, ↓eff_build, ↓eff_buildSlice, ↓eff_call, ↓eff_append, ↓eff_copy, ↓eff_clear, ↓eff_make, ↓reduceIte, ↓c_condI, ↓c_seqH, ↓c_blockH, ↓then_nH, ↓then_rH, ↓then_eH, ↓block_nH, ↓block_rH, ↓block_eH, go_sem, qt2, ht2, List.length_map]
    refine ⟨happ2, fun x hx => by obtain ⟨a, _, rfl⟩ := List.mem_map.1 hx; rfl, ?_⟩
    have := fin_own (v' := v2) hA hT hTi (l := (o1 ++ [⟨9, 0, 0⟩]) ++ o2) (ex := [.tok 3, .tok 1]) (Tn := s.length) (vn := 3) (by simp [← hN2 v2]) (Nat.le_refl _) (h v2)
    rw [List.map_append, List.map_append, List.append_assoc] at this
    exact this
end Go.Proofs
