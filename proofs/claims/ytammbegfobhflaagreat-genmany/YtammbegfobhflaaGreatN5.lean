/- The document's way (selvageref15): the code of one function (Code). -/
import Derived.Test.YtammbegfobhflaaGreatN4
import Derived.Test.YtammbegfobhflaaGreatM9
import Derived.Test.YtammbegfobhflaaGreatW44
set_option linter.all false
set_option linter.unusedSimpArgs false
set_option linter.unusedVariables false
set_option maxRecDepth 8000
namespace Go.AL
/-- The state at the beginning. -/
theorem rgen_start {st : St} {S0 : St} (hS0 : st ++ [Ob.cells [.slice .full 0 [], .slice .full 0 [], .slice .full 0 [], i64 0], Ob.cells [.slice .full 0 [], .slice .full 0 [], .slice .full 0 [], .sc (.bool false)], Ob.cells [.slice .full 0 [], .slice .full 0 [], .slice .full 0 [], i64 0]] = S0) :
    ∃ S3, View S0 S3 ∧ S3[st.length]? = some (.cells [.slice .full 0 [], .slice .full 0 [], .slice .full 0 [], i64 0]) ∧ AtG S3 ⟨st.length + 1, st.length + 3⟩ ⟨[], [], false⟩ 0 ∧
      S3[st.length + 2]? = some (.cells [.slice (.own (st.length + 4) 0) 4 [], .slice .full 0 [], .slice .full 0 [], i64 0]) ∧ S3[st.length + 4]? = some (.tok 0) ∧ ∃ ex, S3 = st ++ ex := by
  have a0 : S0[st.length]? = some (.cells [.slice .full 0 [], .slice .full 0 [], .slice .full 0 [], i64 0]) := by rw [← hS0]; simp
  have a1 : S0[st.length + 1]? = some (.cells [.slice .full 0 [], .slice .full 0 [], .slice .full 0 [], .sc (.bool false)]) := by rw [← hS0]; simp
  have a2 : S0[st.length + 2]? = some (.cells [.slice .full 0 [], .slice .full 0 [], .slice .full 0 [], i64 0]) := by rw [← hS0]; simp
  have aex : ∃ ex, S0 = st ++ ex := ⟨_, hS0.symm⟩
  have hl0 : S0.length = st.length + 3 := by rw [← hS0]; simp
  have v1 := view_ownC (st.length + 1) 1 1 0 a1 (by simp) rfl
  obtain ⟨S1, hS1⟩ : ∃ S1, S0.set (st.length + 1) (.cells (List.set [.slice .full 0 [], .slice .full 0 [], .slice .full 0 [], .sc (.bool false)] 1 (.slice (.own S0.length 0) 1 []))) ++ [Ob.tok 0] = S1 := ⟨_, rfl⟩
  rw [hS1] at v1
  have hl1 : S1.length = st.length + 4 := by rw [← hS1]; simp [hl0]
  rw [hl0] at hS1
  have b1 : S1[st.length + 1]? = some (.cells [.slice .full 0 [], .slice (.own (st.length + 3) 0) 1 [], .slice .full 0 [], .sc (.bool false)]) := by rw [← hS1]; exact get_app (set_get (by omega)) _
  have c2 : S1[st.length + 2]? = some (.cells [.slice .full 0 [], .slice .full 0 [], .slice .full 0 [], i64 0]) := by rw [← hS1]; exact get_app ((set_get_ne (by omega)).trans a2) _
  have v3 := view_ownC (st.length + 2) 0 4 0 c2 (by simp) rfl
  obtain ⟨S3, hS3⟩ : ∃ S3, S1.set (st.length + 2) (.cells (List.set [.slice .full 0 [], .slice .full 0 [], .slice .full 0 [], i64 0] 0 (.slice (.own S1.length 0) 4 []))) ++ [Ob.tok 0] = S3 := ⟨_, rfl⟩
  rw [hS3] at v3
  rw [hl1] at hS3
  have up : ∀ {j : Nat} {o : Ob}, j ≠ st.length + 1 → j ≠ st.length + 2 → S0[j]? = some o → S3[j]? = some o := fun h1 h2 h => by
    rw [← hS3]
    refine get_app ((set_get_ne h2).trans ?_) _
    rw [← hS1]
    exact get_app ((set_get_ne h1).trans h) _
  refine ⟨S3, v1.trans v3, up (by omega) (by omega) a0, ⟨?_, ?_⟩, ?_, ?_, ?_⟩
  · rw [← hS3]; refine get_app ((set_get_ne (by show st.length + 1 ≠ _; omega)).trans ?_) _
    exact b1
  · rw [← hS3]; refine get_app ((set_get_ne (by show st.length + 3 ≠ _; omega)).trans ?_) _
    rw [← hS1]
    show (_ ++ [_])[st.length + 3]? = _
    rw [List.getElem?_append_right (by simp; omega)]
    simp [hl0]
  · rw [← hS3]; exact get_app (set_get (by omega)) _
  · rw [← hS3]
    rw [List.getElem?_append_right (by simp; omega)]
    simp [hl1]
  · rw [← hS3, ← hS1]
    exact ex_app2 (ex_set (ex_app2 (ex_set aex (by omega) _) _) (by omega) _) _
theorem any_take_step {l : List In} {k : Nat} (h : k < l.length) : (l.take (k + 1)).any farI = ((l.take k).any farI || farI (l[k]'h)) := by
  rw [List.take_succ_eq_append_getElem h, List.any_append]
  simp
end Go.AL
namespace Go.Proofs
open Go Go.AL
theorem goRA {D : Nat} {b : Co} {Bd Bi : Nat} (hgo : GoR D b Bd Bi) {s : St} {L : RL} {g : GR} {v : Nat} (hA : AtG s L g v) {T tv : Nat} (hT : s[T]? = some (.tok tv)) (hTi : T ≠ L.ti) (base : Nat) (last : Bool) (hb : base ≤ Bd) (hl : g.ints.length ≤ Bi) (K : SV → St → Prop)
    (h : ∀ v', K (.slice (.own T (tv + 1)) 3 ((expR D b base last g).1.map inSV)) ((gW s L (expR D b base last g).2 v').set T (.tok (tv + 1)))) :
    ACalls Tryz.prog 13 [.ptr L.id 0, .agg [i64 b.kind, i64 b.number, str b.text, cosSV b.kids, i64 0, .slice .imm 1 [], .slice .imm 6 [], .slice .imm 4 [], bdsSV b.binds], i64 base, .sc (.bool last)] K s := by
  rw [← coSV_eq]
  exact hgo hA hT hTi base last hb hl K h
set_option maxHeartbeats 8000000 in
theorem rgen_c (D : Nat) (hD : D ≤ 100000) (b : Co) (hgo : GoR D b 0 0) (hfit : fitC D b) {X : List In} {G : GR} (hX : expR D b 0 true ⟨[], [], false⟩ = (X, G)) (htx : G.texts = []) (hl1 : X.length ≤ 5000) (hl2 : G.ints.length ≤ 10000) (m0 : AL.Mode) (K : SV → St → Prop) (st : St)
    (h : ∀ c k e, refG D b = (c, k, e) → ∀ z1 z2 z3, CdZ .imm .imm .imm z1 z2 z3 c → K (.tuple [.agg (cdCells .imm .imm .imm z1 z2 z3 c), i64 k, i64 e]) st) :
    ACalls Tryz.prog 5 [.slice m0 11 [fuSV ⟨0, 0, b⟩], .slice .full 0 [], i64 0] K st := by
  obtain ⟨R, hR⟩ : ∃ R, refG D b = R := ⟨_, rfl⟩
  rw [hR] at h
  have hR : (if manyRB D b X G then (default, 0, 16) else if refF ⟨[⟨0, 0, needsG D b, X⟩], G.ints, G.texts, 0⟩ = 0 then (⟨[⟨0, 0, needsG D b, X⟩], G.ints, G.texts, 0⟩, 0, 0) else (default, 0, 1)) = R := by
    rw [← hR]; unfold refG; rw [hX]
  refine acalls_goT [18] Tryz.func5 rfl Tryz.results5 Tryz.ntmps5 ?_
  simp -implicitDefEqProofs (maxSteps := 2000000) only [↓ops_nil, ↓ops_none, ↓ops_some, ↓kd_eff, ↓dr_nil, ↓dr_cons, ↓d1_none, ↓d1_some, ↓eff_store, ↓eff_box, ↓eff_alloc, ↓eff_build, ↓eff_buildSlice, ↓eff_call, ↓eff_append, ↓eff_copy, ↓eff_clear, ↓eff_make, ↓reduceIte, ↓c_condI, ↓c_seqH, ↓c_blockH, ↓then_nH, ↓then_rH, ↓then_eH, ↓block_nH, ↓block_rH, ↓block_eH, go_sem]
  obtain ⟨S0, hS0⟩ : ∃ S0, st ++ [Ob.cells [.slice .full 0 [], .slice .full 0 [], .slice .full 0 [], i64 0], Ob.cells [.slice .full 0 [], .slice .full 0 [], .slice .full 0 [], .sc (.bool false)], Ob.cells [.slice .full 0 [], .slice .full 0 [], .slice .full 0 [], i64 0]] = S0 := ⟨_, rfl⟩
  obtain ⟨S3, hv, i1, hA, i3, i4, i5⟩ := rgen_start hS0
  rw [hS0]
  refine awp_view hv ?_
  have fin16 : manyRB D b X G = true → ∀ s', (∃ ex, s' = st ++ ex) → FinT st K (.tuple [.agg [.slice .full 0 [], .slice .full 0 [], .slice .full 0 [], i64 0], i64 0, i64 16]) s' := fun hm s' hex => by
    rw [if_pos hm] at hR
    refine ⟨_, _, _, rfl, hex, ids_codes (m1 := .full) (m2 := .full) (m3 := .full) (z1 := 0) (z2 := 0) (z3 := 0) default, ?_⟩
    exact h default 0 16 hR.symm 0 0 0 ⟨fun e => absurd rfl e, fun e => absurd rfl e, fun e => absurd rfl e⟩
  have n1 : ((0 : Int) < ((1 : Nat) : Int)) = True := eq_true (by decide)
  have n2 : ((1 : Int) < ((1 : Nat) : Int)) = False := eq_false (by decide)
  have n3 : ((0 : Int) < (1 : Int)) = True := eq_true (by decide)
  have n4 : ((1 : Int) < (1 : Int)) = False := eq_false (by decide)
  refine awp_rounds [18] (fun bb e s => (bb = 1 ∧ s = S3 ∧ e = [.slice m0 11 [fuSV ⟨0, 0, b⟩], .any, .any, .any, .any, .any, .ptr st.length 0, .any, .any, .ptr (st.length + 1) 0, .ptr (st.length + 2) 0, i64 0, .any, .any, .any, .any, .any, .any, .any, .any, .any, .any, .any, .any, .any, .any, .any, .any, .any, .any, .any, .any, .any, .any, .any, .any, .any, .any, .any, .any, .any, .any, .any, .any, .any, .any, .any, .any, .any, .any, .any, .any, .any, .any, .any, .any, .any, .any, .any, .any, .any, .any, .any, .any, .any, .any, .any, .any, .any, .any, .any, .any, .any, .any, .any, .any, .any, .any, .any, .any, .any, .any, .any, .any, .any, .any, .any, .any, .any, .any, .any, .any, .any, .any, .any, .any, .any, .any, .any, .any, .any, .any, .any, .any, .any, .any, .any, .any, .any, .any, .any, .any, .any, .any, .any, .any, .any, .any, .any, .any, .any, .any, .any, .any, .any, .any, .any, .any, .any, .any]) ∨
      (bb = 0 ∧ manyRB D b X G = false ∧ (∃ ex, s = st ++ ex) ∧ s[st.length]? = some (.cells [.slice .full 0 [], .slice .full 0 [], .slice .full 0 [], i64 0]) ∧ (∃ v, s[st.length + 1]? = some (.cells (gOb ⟨st.length + 1, st.length + 3⟩ G v))) ∧
        s[st.length + 2]? = some (.cells [.slice (.own (st.length + 4) 1) 4 [bdSV ⟨0, 0, needsG D b, X⟩], .slice .full 0 [], .slice .full 0 [], i64 0]) ∧ e = [.slice m0 11 [fuSV ⟨0, 0, b⟩], .any, .any, .any, .any, .any, .ptr st.length 0, .any, .any, .ptr (st.length + 1) 0, .ptr (st.length + 2) 0, i64 1, .any, .any, .any, .any, .any, .any, .any, .any, .any, .any, .any, .any, .any, .any, .any, .any, .any, .any, .any, .any, .any, .any, .any, .any, .any, .any, .any, .any, .any, .any, .any, .any, .any, .any, .any, .any, .any, .any, .any, .any, .any, .any, .any, .any, .any, .any, .any, .any, .any, .any, .any, .any, .any, .any, .any, .any, .any, .any, .any, .any, .any, .any, .any, .any, .any, .any, .any, .any, .any, .any, .any, .any, .any, .any, .any, .any, .any, .any, .any, .any, .any, .any, .any, .any, .any, .any, .any, .any, .any, .any, .any, .any, .any, .any, .any, .any, .any, .any, .any, .any, .any, .any, .any, .any, .any, .any, .any, .any, .any, .any, .any, .any, .any, .any, .any, .any, .any, .any])) (n := 1) ?_ (.inl ⟨rfl, rfl, rfl⟩) ?_
  · repeat (first | exact leEnv_nil | refine leEnv_any _ ?_ | refine leEnv_same _ ?_ | refine leEnv_norm _ ?_)
  rintro bb e s (⟨rfl, rfl, rfl⟩ | ⟨rfl, hmany, hex, j0, ⟨v, j1⟩, j2, rfl⟩)
  · have hlt := lt_of_get i4
    simp -implicitDefEqProofs (maxSteps := 2000000) only [↓ops_nil, ↓ops_none, ↓ops_some, ↓kd_eff, ↓dr_nil, ↓dr_cons, ↓d1_none, ↓d1_some, ↓eff_store, ↓eff_box, ↓eff_alloc, ↓eff_build, ↓eff_buildSlice, ↓eff_call, ↓eff_append, ↓eff_copy, ↓eff_clear, ↓eff_make, ↓reduceIte, ↓c_condI, ↓c_seqH, ↓c_blockH, ↓then_nH, ↓then_rH, ↓then_eH, ↓block_nH, ↓block_rH, ↓block_eH, go_sem, n1, n3, fuSV, fuCells]
    refine acalls_view view_tok ?_
    refine goRA hgo (hA.app [.tok 0]) (T := s.length) (tv := 0) (by simp) (by show _ ≠ st.length + 3; omega) 0 true (Nat.le_refl _) (Nat.le_refl _) _ fun v1 => ?_
    rw [hX]
    simp only
    rw [gWT hA]
    obtain ⟨S4, hS4⟩ : ∃ S4, gW s ⟨st.length + 1, st.length + 3⟩ G v1 ++ [Ob.tok 1] = S4 := ⟨_, rfl⟩
    rw [hS4]
    have hAt := hA.turn G v1
    have up : ∀ {j : Nat} {o : Ob}, j ≠ st.length + 1 → j ≠ st.length + 3 → s[j]? = some o → S4[j]? = some o := fun h1 h2 ho => by
      rw [← hS4]
      exact get_app ((gW_out h1 h2).trans ho) _
    have k0 := up (by omega) (by omega) i1
    have k2 := up (by omega) (by omega) i3
    have k4 := up (by omega) (by omega) i4
    have k1 : S4[st.length + 1]? = some (.cells (gOb ⟨st.length + 1, st.length + 3⟩ G v1)) := by rw [← hS4]; exact get_app hAt.o _
    have kex : ∃ ex, S4 = st ++ ex := by
      rw [← hS4]
      unfold gW
      exact ex_app2 (ex_set (ex_set i5 (by show _ ≤ st.length + 1; omega) _) (by show _ ≤ st.length + 3; omega) _) _
    have hl4 := lt_of_get k4
    have q0 := cells_facts k0
    have q1 := cells_facts k1
    have q2 := cells_facts k2
    have qt := tokAt_eq (v' := 0) k4
    simp -implicitDefEqProofs (maxSteps := 2000000) only [↓ops_nil, ↓ops_none, ↓ops_some, ↓kd_eff, ↓dr_nil, ↓dr_cons, ↓d1_none, ↓d1_some, ↓eff_store, ↓eff_box, ↓eff_alloc, ↓eff_build, ↓eff_buildSlice, ↓eff_call, ↓eff_append, ↓eff_copy, ↓eff_clear, ↓eff_make, ↓reduceIte, ↓c_condI, ↓c_seqH, ↓c_blockH, ↓then_nH, ↓then_rH, ↓then_eH, ↓block_nH, ↓block_rH, ↓block_eH, go_sem, n1, fuSV, fuCells]
    refine rneedsA D hD b hfit _ _ ?_
    simp -implicitDefEqProofs (maxSteps := 2000000) only [↓ops_nil, ↓ops_none, ↓ops_some, ↓kd_eff, ↓dr_nil, ↓dr_cons, ↓d1_none, ↓d1_some, ↓eff_store, ↓eff_box, ↓eff_alloc, ↓eff_build, ↓eff_buildSlice, ↓eff_call, ↓eff_append, ↓eff_copy, ↓eff_clear, ↓eff_make, ↓reduceIte, ↓c_condI, ↓c_seqH, ↓c_blockH, ↓then_nH, ↓then_rH, ↓then_eH, ↓block_nH, ↓block_rH, ↓block_eH, go_sem]
    refine awp_rounds [18] (fun b2 e s' => ∃ k, k + b2 = X.length ∧ s' = S4 ∧ e = [.slice m0 11 [fuSV ⟨0, 0, b⟩], .any, .any, .any, .any, .any, .ptr st.length 0, .any, .any, .ptr (st.length + 1) 0, .ptr (st.length + 2) 0, i64 0, .slice .imm 3 (X.map inSV), i64 (needsG D b), .sc (.bool ((X.take k).any farI)), i64 k, .any, .any, .any, .any, .any, .any, .any, .any, .any, .any, .any, .any, .any, .any, .any, .any, .any, .any, .any, .any, .any, .any, .any, .any, .any, .any, .any, .any, .any, .any, .any, .any, .any, .any, .any, .any, .any, .any, .any, .any, .any, .any, .any, .any, .any, .any, .any, .any, .any, .any, .any, .any, .any, .any, .any, .any, .any, .any, .any, .any, .any, .any, .any, .any, .any, .any, .any, .any, .any, .any, .any, .any, .any, .any, .any, .any, .any, .any, .any, .any, .any, .any, .any, .any, .any, .any, .any, .any, .any, .any, .any, .any, .any, .any, .any, .any, .any, .any, .any, .any, .any, .any, .any, .any, .any, .any, .any, .any, .any, .any, .any, .any, .any, .any]) (n := X.length) ?_ ⟨0, by omega, rfl, rfl⟩ ?_
    · simp only [fuSV, fuCells]
      repeat (first | exact leEnv_nil | refine leEnv_any _ ?_ | refine leEnv_same _ ?_ | refine leEnv_norm _ ?_)
    rintro b2 e s' ⟨k, hk, rfl, rfl⟩
    by_cases hltk : k < X.length
    · have c1 : (k : Int) < (X.length : Int) := by omega
      have hgt : (X.map inSV).getD k .any = inSV X[k] := by simp [List.getD_eq_getElem?_getD, hltk]
      have hw : IntKind.i64.wrap ((k : Int) + 1) = ((k + 1 : Nat) : Int) := by rw [IntWalk.i64_in _ (by omega)]; rfl
      have hst := any_take_step hltk
      generalize X[k] = x at hgt hst
      cases hb : (X.take k).any farI with
      | true =>
        rw [hb] at hst
        simp -implicitDefEqProofs (maxSteps := 2000000) only [↓ops_nil, ↓ops_none, ↓ops_some, ↓kd_eff, ↓dr_nil, ↓dr_cons, ↓d1_none, ↓d1_some, ↓eff_store, ↓eff_box, ↓eff_alloc, ↓eff_build, ↓eff_buildSlice, ↓eff_call, ↓eff_append, ↓eff_copy, ↓eff_clear, ↓eff_make, ↓reduceIte, ↓c_condI, ↓c_seqH, ↓c_blockH, ↓then_nH, ↓then_rH, ↓then_eH, ↓block_nH, ↓block_rH, ↓block_eH, go_sem, c1, hb, hw, List.length_map]
        refine ⟨b2 - 1, [.slice m0 11 [fuSV ⟨0, 0, b⟩], .any, .any, .any, .any, .any, .ptr st.length 0, .any, .any, .ptr (st.length + 1) 0, .ptr (st.length + 2) 0, i64 0, .slice .imm 3 (X.map inSV), i64 (needsG D b), .sc (.bool true), i64 ((k + 1 : Nat) : Int), .any, .any, .any, .any, .any, .any, .any, .any, .any, .any, .any, .any, .any, .any, .any, .any, .any, .any, .any, .any, .any, .any, .any, .any, .any, .any, .any, .any, .any, .any, .any, .any, .any, .any, .any, .any, .any, .any, .any, .any, .any, .any, .any, .any, .any, .any, .any, .any, .any, .any, .any, .any, .any, .any, .any, .any, .any, .any, .any, .any, .any, .any, .any, .any, .any, .any, .any, .any, .any, .any, .any, .any, .any, .any, .any, .any, .any, .any, .any, .any, .any, .any, .any, .any, .any, .any, .any, .any, .any, .any, .any, .any, .any, .any, .any, .any, .any, .any, .any, .any, .any, .any, .any, .any, .any, .any, .any, .any, .any, .any, .any, .any, .any, .any], by omega, ?_, k + 1, by omega, by (rw [hst]; rfl)⟩
        simp only [fuSV, fuCells]
        repeat (first | exact leEnv_nil | refine leEnv_any _ ?_ | refine leEnv_same _ ?_ | refine leEnv_norm _ ?_)
      | false =>
        rw [hb] at hst
        cases ho : (x.op == 18) with
        | false =>
          have hfx : farI x = false := by unfold farI; rw [ho]; rfl
          simp -implicitDefEqProofs (maxSteps := 2000000) only [↓ops_nil, ↓ops_none, ↓ops_some, ↓kd_eff, ↓dr_nil, ↓dr_cons, ↓d1_none, ↓d1_some, ↓eff_store, ↓eff_box, ↓eff_alloc, ↓eff_build, ↓eff_buildSlice, ↓eff_call, ↓eff_append, ↓eff_copy, ↓eff_clear, ↓eff_make, ↓reduceIte, ↓c_condI, ↓c_seqH, ↓c_blockH, ↓then_nH, ↓then_rH, ↓then_eH, ↓block_nH, ↓block_rH, ↓block_eH, go_sem, c1, hb, hw, List.length_map, hgt, inSV, inCells, ho]
          refine ⟨b2 - 1, [.slice m0 11 [fuSV ⟨0, 0, b⟩], .any, .any, .any, .any, .any, .ptr st.length 0, .any, .any, .ptr (st.length + 1) 0, .ptr (st.length + 2) 0, i64 0, .slice .imm 3 (X.map inSV), i64 (needsG D b), .sc (.bool false), i64 ((k + 1 : Nat) : Int), .any, .any, .any, .any, .any, .any, .any, .any, .any, .any, .any, .any, .any, .any, .any, .any, .any, .any, .any, .any, .any, .any, .any, .any, .any, .any, .any, .any, .any, .any, .any, .any, .any, .any, .any, .any, .any, .any, .any, .any, .any, .any, .any, .any, .any, .any, .any, .any, .any, .any, .any, .any, .any, .any, .any, .any, .any, .any, .any, .any, .any, .any, .any, .any, .any, .any, .any, .any, .any, .any, .any, .any, .any, .any, .any, .any, .any, .any, .any, .any, .any, .any, .any, .any, .any, .any, .any, .any, .any, .any, .any, .any, .any, .any, .any, .any, .any, .any, .any, .any, .any, .any, .any, .any, .any, .any, .any, .any, .any, .any, .any, .any, .any, .any], by omega, ?_, k + 1, by omega, by (rw [hst, hfx]; rfl)⟩
          simp only [fuSV, fuCells]
          repeat (first | exact leEnv_nil | refine leEnv_any _ ?_ | refine leEnv_same _ ?_ | refine leEnv_norm _ ?_)
        | true =>
          by_cases ha : 65535 < x.a
          · have hfx : farI x = true := by unfold farI; rw [ho, decide_eq_true ha]; rfl
            simp -implicitDefEqProofs (maxSteps := 2000000) only [↓ops_nil, ↓ops_none, ↓ops_some, ↓kd_eff, ↓dr_nil, ↓dr_cons, ↓d1_none, ↓d1_some, ↓eff_store, ↓eff_box, ↓eff_alloc, ↓eff_build, ↓eff_buildSlice, ↓eff_call, ↓eff_append, ↓eff_copy, ↓eff_clear, ↓eff_make, ↓reduceIte, ↓c_condI, ↓c_seqH, ↓c_blockH, ↓then_nH, ↓then_rH, ↓then_eH, ↓block_nH, ↓block_rH, ↓block_eH, go_sem, c1, hb, hw, List.length_map, hgt, inSV, inCells, ho, ha]
            refine ⟨b2 - 1, [.slice m0 11 [fuSV ⟨0, 0, b⟩], .any, .any, .any, .any, .any, .ptr st.length 0, .any, .any, .ptr (st.length + 1) 0, .ptr (st.length + 2) 0, i64 0, .slice .imm 3 (X.map inSV), i64 (needsG D b), .sc (.bool true), i64 ((k + 1 : Nat) : Int), .any, .any, .any, .any, .any, .any, .any, .any, .any, .any, .any, .any, .any, .any, .any, .any, .any, .any, .any, .any, .any, .any, .any, .any, .any, .any, .any, .any, .any, .any, .any, .any, .any, .any, .any, .any, .any, .any, .any, .any, .any, .any, .any, .any, .any, .any, .any, .any, .any, .any, .any, .any, .any, .any, .any, .any, .any, .any, .any, .any, .any, .any, .any, .any, .any, .any, .any, .any, .any, .any, .any, .any, .any, .any, .any, .any, .any, .any, .any, .any, .any, .any, .any, .any, .any, .any, .any, .any, .any, .any, .any, .any, .any, .any, .any, .any, .any, .any, .any, .any, .any, .any, .any, .any, .any, .any, .any, .any, .any, .any, .any, .any, .any, .any], by omega, ?_, k + 1, by omega, by (rw [hst, hfx]; rfl)⟩
            simp only [fuSV, fuCells]
            repeat (first | exact leEnv_nil | refine leEnv_any _ ?_ | refine leEnv_same _ ?_ | refine leEnv_norm _ ?_)
          · have hfx : farI x = false := by unfold farI; rw [ho, decide_eq_false ha]; rfl
            simp -implicitDefEqProofs (maxSteps := 2000000) only [↓ops_nil, ↓ops_none, ↓ops_some, ↓kd_eff, ↓dr_nil, ↓dr_cons, ↓d1_none, ↓d1_some, ↓eff_store, ↓eff_box, ↓eff_alloc, ↓eff_build, ↓eff_buildSlice, ↓eff_call, ↓eff_append, ↓eff_copy, ↓eff_clear, ↓eff_make, ↓reduceIte, ↓c_condI, ↓c_seqH, ↓c_blockH, ↓then_nH, ↓then_rH, ↓then_eH, ↓block_nH, ↓block_rH, ↓block_eH, go_sem, c1, hb, hw, List.length_map, hgt, inSV, inCells, ho, ha]
            refine ⟨b2 - 1, [.slice m0 11 [fuSV ⟨0, 0, b⟩], .any, .any, .any, .any, .any, .ptr st.length 0, .any, .any, .ptr (st.length + 1) 0, .ptr (st.length + 2) 0, i64 0, .slice .imm 3 (X.map inSV), i64 (needsG D b), .sc (.bool false), i64 ((k + 1 : Nat) : Int), .any, .any, .any, .any, .any, .any, .any, .any, .any, .any, .any, .any, .any, .any, .any, .any, .any, .any, .any, .any, .any, .any, .any, .any, .any, .any, .any, .any, .any, .any, .any, .any, .any, .any, .any, .any, .any, .any, .any, .any, .any, .any, .any, .any, .any, .any, .any, .any, .any, .any, .any, .any, .any, .any, .any, .any, .any, .any, .any, .any, .any, .any, .any, .any, .any, .any, .any, .any, .any, .any, .any, .any, .any, .any, .any, .any, .any, .any, .any, .any, .any, .any, .any, .any, .any, .any, .any, .any, .any, .any, .any, .any, .any, .any, .any, .any, .any, .any, .any, .any, .any, .any, .any, .any, .any, .any, .any, .any, .any, .any, .any, .any, .any, .any], by omega, ?_, k + 1, by omega, by (rw [hst, hfx]; rfl)⟩
            simp only [fuSV, fuCells]
            repeat (first | exact leEnv_nil | refine leEnv_any _ ?_ | refine leEnv_same _ ?_ | refine leEnv_norm _ ?_)
    · obtain rfl : k = X.length := by omega
      have c1 : ¬ (X.length : Int) < (X.length : Int) := by omega
      rw [List.take_length]
      have e16 : ∀ o, ∃ ex, s'.set st.length o = st ++ ex := fun o => ex_set kex (Nat.le_refl _) o
      unfold manyRB at fin16 hR
      cases x1 : X.any farI with
      | true =>
        simp -implicitDefEqProofs (maxSteps := 2000000) only [↓ops_nil, ↓ops_none, ↓ops_some, ↓kd_eff, ↓dr_nil, ↓dr_cons, ↓d1_none, ↓d1_some, ↓eff_store, ↓eff_box, ↓eff_alloc, ↓eff_build, ↓eff_buildSlice, ↓eff_call, ↓eff_append, ↓eff_copy, ↓eff_clear, ↓eff_make, ↓reduceIte, ↓c_condI, ↓c_seqH, ↓c_blockH, ↓then_nH, ↓then_rH, ↓then_eH, ↓block_nH, ↓block_rH, ↓block_eH, go_sem, c1, x1, List.length_map, q0.1, q0.2.1, q0.2.2]
        exact fin16 (by rw [x1]; rfl) _ (e16 _)
      | false =>
      cases x2 : G.many with
      | true =>
        simp -implicitDefEqProofs (maxSteps := 2000000) only [↓ops_nil, ↓ops_none, ↓ops_some, ↓kd_eff, ↓dr_nil, ↓dr_cons, ↓d1_none, ↓d1_some, ↓eff_store, ↓eff_box, ↓eff_alloc, ↓eff_build, ↓eff_buildSlice, ↓eff_call, ↓eff_append, ↓eff_copy, ↓eff_clear, ↓eff_make, ↓reduceIte, ↓c_condI, ↓c_seqH, ↓c_blockH, ↓then_nH, ↓then_rH, ↓then_eH, ↓block_nH, ↓block_rH, ↓block_eH, go_sem, c1, x1, x2, List.length_map, q0.1, q0.2.1, q0.2.2, q1.1, q1.2.1, q1.2.2, gOb]
        exact fin16 (by rw [x1, x2]; rfl) _ (e16 _)
      | false =>
      by_cases x3 : 400 < X.length
      · have y3 : (400 : Int) < (X.length : Int) := by omega
        simp -implicitDefEqProofs (maxSteps := 2000000) only [↓ops_nil, ↓ops_none, ↓ops_some, ↓kd_eff, ↓dr_nil, ↓dr_cons, ↓d1_none, ↓d1_some, ↓eff_store, ↓eff_box, ↓eff_alloc, ↓eff_build, ↓eff_buildSlice, ↓eff_call, ↓eff_append, ↓eff_copy, ↓eff_clear, ↓eff_make, ↓reduceIte, ↓c_condI, ↓c_seqH, ↓c_blockH, ↓then_nH, ↓then_rH, ↓then_eH, ↓block_nH, ↓block_rH, ↓block_eH, go_sem, c1, x1, x2, y3, List.length_map, q0.1, q0.2.1, q0.2.2, q1.1, q1.2.1, q1.2.2, gOb]
        exact fin16 (by simp only [x3, decide_true, Bool.true_or, Bool.or_true]) _ (e16 _)
      have y3 : ¬ (400 : Int) < (X.length : Int) := by omega
      by_cases x4 : 120 < G.ints.length
      · have y4 : (120 : Int) < (G.ints.length : Int) := by omega
        simp -implicitDefEqProofs (maxSteps := 2000000) only [↓ops_nil, ↓ops_none, ↓ops_some, ↓kd_eff, ↓dr_nil, ↓dr_cons, ↓d1_none, ↓d1_some, ↓eff_store, ↓eff_box, ↓eff_alloc, ↓eff_build, ↓eff_buildSlice, ↓eff_call, ↓eff_append, ↓eff_copy, ↓eff_clear, ↓eff_make, ↓reduceIte, ↓c_condI, ↓c_seqH, ↓c_blockH, ↓then_nH, ↓then_rH, ↓then_eH, ↓block_nH, ↓block_rH, ↓block_eH, go_sem, c1, x1, x2, y3, y4, List.length_map, q0.1, q0.2.1, q0.2.2, q1.1, q1.2.1, q1.2.2, gOb]
        exact fin16 (by simp only [x4, decide_true, Bool.true_or, Bool.or_true]) _ (e16 _)
      have y4 : ¬ (120 : Int) < (G.ints.length : Int) := by omega
      have y5 : ¬ (120 : Int) < ((0 : Nat) : Int) := by omega
      by_cases x5 : 60 < needsG D b
      · simp -implicitDefEqProofs (maxSteps := 2000000) only [↓ops_nil, ↓ops_none, ↓ops_some, ↓kd_eff, ↓dr_nil, ↓dr_cons, ↓d1_none, ↓d1_some, ↓eff_store, ↓eff_box, ↓eff_alloc, ↓eff_build, ↓eff_buildSlice, ↓eff_call, ↓eff_append, ↓eff_copy, ↓eff_clear, ↓eff_make, ↓reduceIte, ↓c_condI, ↓c_seqH, ↓c_blockH, ↓then_nH, ↓then_rH, ↓then_eH, ↓block_nH, ↓block_rH, ↓block_eH, go_sem, c1, x1, x2, y3, y4, y5, x5, List.length_map, q0.1, q0.2.1, q0.2.2, q1.1, q1.2.1, q1.2.2, gOb]
        exact fin16 (by simp only [x5, decide_true, Bool.true_or, Bool.or_true]) _ (e16 _)
      have hmn : (X.any farI || (G.many || (decide (400 < X.length) || (decide (120 < G.ints.length) || (decide (120 < G.texts.length) || decide (60 < needsG D b)))))) = false := by
        rw [x1, x2, decide_eq_false x3, decide_eq_false x4, htx, decide_eq_false x5]; rfl
      have happ := Tryz.app35 (n := 1) (by omega)
      simp -implicitDefEqProofs (maxSteps := 2000000) only [↓ops_nil, ↓ops_none, ↓ops_some, ↓kd_eff, ↓dr_nil, ↓dr_cons, ↓d1_none, ↓d1_some, ↓eff_store, ↓eff_box, ↓eff_alloc, ↓eff_build, ↓eff_buildSlice, ↓eff_call, ↓eff_append, ↓eff_copy, ↓eff_clear, ↓eff_make, ↓reduceIte, ↓c_condI, ↓c_seqH, ↓c_blockH, ↓then_nH, ↓then_rH, ↓then_eH, ↓block_nH, ↓block_rH, ↓block_eH, go_sem, c1, x1, x2, y3, y4, y5, x5, q0.1, q0.2.1, q0.2.2, q1.1, q1.2.1, q1.2.2, q2.1, q2.2.1, q2.2.2, gOb, List.length_map]
      refine awp_drawW [18] [(0, []), (0, []), (0, []), (0, []), (0, []), (0, []), (0, []), (0, []), (0, []), (0, []), (0, []), (0, []), (0, []), (0, []), (0, []), (0, []), (3, [18]), (0, []), (1, [19])] Tryz.mixed rfl ?_
      simp -implicitDefEqProofs (maxSteps := 2000000) only [↓ops_nil, ↓ops_none, ↓ops_some, ↓kd_eff, ↓dr_nil, ↓dr_cons, ↓d1_none, ↓d1_some, ↓eff_store, ↓eff_box, ↓eff_alloc, ↓eff_build, ↓eff_buildSlice, ↓eff_call, ↓eff_append, ↓eff_copy, ↓eff_clear, ↓eff_make, ↓reduceIte, ↓c_condI, ↓c_seqH, ↓c_blockH, ↓then_nH, ↓then_rH, ↓then_eH, ↓block_nH, ↓block_rH, ↓block_eH, go_sem, drawW_n, drawW_0, drawW_1, drawW_2, drawW_3, pend_n, pend_c, headD_c, isStore_s, n1, fuSV, fuCells, q0.1, q0.2.1, q0.2.2, q1.1, q1.2.1, q1.2.2, q2.1, q2.2.1, q2.2.2, gOb, List.length_map]
      rw [dk_eff]
      refine ⟨bdSV ⟨0, 0, needsG D b, X⟩, ?_, ?_⟩
      · simp -implicitDefEqProofs (maxSteps := 2000000) only [↓ops_nil, ↓ops_none, ↓ops_some, ↓kd_eff, ↓dr_nil, ↓dr_cons, ↓d1_none, ↓d1_some, ↓eff_store, ↓eff_box, ↓eff_alloc, ↓eff_build, ↓eff_buildSlice, ↓eff_call, ↓eff_append, ↓eff_copy, ↓eff_clear, ↓eff_make, ↓reduceIte, ↓c_condI, ↓c_seqH, ↓c_blockH, ↓then_nH, ↓then_rH, ↓then_eH, ↓block_nH, ↓block_rH, ↓block_eH, go_sem]
        exact ⟨⟨[], by simp⟩, ids_bd _ _, .inl rfl⟩
      rw [dk_eff]
      refine ⟨.slice .full 4 [bdSV ⟨0, 0, needsG D b, X⟩], ?_, ?_⟩
      · simp -implicitDefEqProofs (maxSteps := 2000000) only [↓ops_nil, ↓ops_none, ↓ops_some, ↓kd_eff, ↓dr_nil, ↓dr_cons, ↓d1_none, ↓d1_some, ↓eff_store, ↓eff_box, ↓eff_alloc, ↓eff_build, ↓eff_buildSlice, ↓eff_call, ↓eff_append, ↓eff_copy, ↓eff_clear, ↓eff_make, ↓reduceIte, ↓c_condI, ↓c_seqH, ↓c_blockH, ↓then_nH, ↓then_rH, ↓then_eH, ↓block_nH, ↓block_rH, ↓block_eH, go_sem, bdSV, insSV]
        exact ⟨⟨[], by simp⟩, ids_bds2 _ _ (.inr rfl) [⟨0, 0, needsG D b, X⟩], .inl rfl⟩
      simp -implicitDefEqProofs (maxSteps := 2000000) only [↓ops_nil, ↓ops_none, ↓ops_some, ↓kd_eff, ↓dr_nil, ↓dr_cons, ↓d1_none, ↓d1_some, ↓eff_store, ↓eff_box, ↓eff_alloc, ↓eff_build, ↓eff_buildSlice, ↓eff_call, ↓eff_append, ↓eff_copy, ↓eff_clear, ↓eff_make, ↓reduceIte, ↓c_condI, ↓c_seqH, ↓c_blockH, ↓then_nH, ↓then_rH, ↓then_eH, ↓block_nH, ↓block_rH, ↓block_eH, go_sem, drawW_n, drawW_0, drawW_1, drawW_2, drawW_3, pend_n, pend_c, headD_c, isStore_s, q0.1, q0.2.1, q0.2.2, q1.1, q1.2.1, q1.2.2, q2.1, q2.2.1, q2.2.2, gOb, List.length_map, qt]
      obtain ⟨s5, hs5⟩ : ∃ s5, s'.set (st.length + 4) (.tok 1) = s5 := ⟨_, rfl⟩
      have m2 : s5[st.length + 2]? = some (.cells [.slice (.own (st.length + 4) 0) 4 [], .slice .full 0 [], .slice .full 0 [], i64 0]) := by rw [← hs5, set_get_ne (by omega)]; exact k2
      have r2 := cells_facts m2
      refine ⟨_, s5, ⟨happ, rfl, rfl, hs5⟩, ?_⟩
      have hw1 : IntKind.i64.wrap ((0 : Int) + 1) = 1 := rfl
      simp -implicitDefEqProofs (maxSteps := 2000000) only [↓ops_nil, ↓ops_none, ↓ops_some, ↓kd_eff, ↓dr_nil, ↓dr_cons, ↓d1_none, ↓d1_some, ↓eff_store, ↓eff_box, ↓eff_alloc, ↓eff_build, ↓eff_buildSlice, ↓eff_call, ↓eff_append, ↓eff_copy, ↓eff_clear, ↓eff_make, ↓reduceIte, ↓c_condI, ↓c_seqH, ↓c_blockH, ↓then_nH, ↓then_rH, ↓then_eH, ↓block_nH, ↓block_rH, ↓block_eH, go_sem, drawW_n, drawW_0, drawW_1, drawW_2, drawW_3, pend_n, pend_c, headD_c, isStore_s, r2.1, r2.2.1, r2.2.2, hw1]
      refine ⟨0, [.slice m0 11 [fuSV ⟨0, 0, b⟩], .any, .any, .any, .any, .any, .ptr st.length 0, .any, .any, .ptr (st.length + 1) 0, .ptr (st.length + 2) 0, i64 1, .any, .any, .any, .any, .any, .any, .any, .any, .any, .any, .any, .any, .any, .any, .any, .any, .any, .any, .any, .any, .any, .any, .any, .any, .any, .any, .any, .any, .any, .any, .any, .any, .any, .any, .any, .any, .any, .any, .any, .any, .any, .any, .any, .any, .any, .any, .any, .any, .any, .any, .any, .any, .any, .any, .any, .any, .any, .any, .any, .any, .any, .any, .any, .any, .any, .any, .any, .any, .any, .any, .any, .any, .any, .any, .any, .any, .any, .any, .any, .any, .any, .any, .any, .any, .any, .any, .any, .any, .any, .any, .any, .any, .any, .any, .any, .any, .any, .any, .any, .any, .any, .any, .any, .any, .any, .any, .any, .any, .any, .any, .any, .any, .any, .any, .any, .any, .any, .any], by omega, ?_, .inr ⟨rfl, ?_, ?_, ?_, ⟨v1, ?_⟩, ?_, rfl⟩⟩
      · repeat (first | exact leEnv_nil | refine leEnv_any _ ?_ | refine leEnv_same _ ?_ | refine leEnv_norm _ ?_)
      · unfold manyRB; exact hmn
      · rw [← hs5]; exact ex_set (ex_set kex (by omega) _) (by omega) _
      · rw [set_get_ne (by omega), ← hs5, set_get_ne (by omega)]; exact k0
      · rw [set_get_ne (by omega), ← hs5, set_get_ne (by omega)]; exact k1
      · have hl2 := lt_of_get k2
        rw [set_get (by rw [← hs5]; simpa using hl2)]
  · have q0 := cells_facts j0
    have q1 := cells_facts j1
    have q2 := cells_facts j2
    rw [if_neg (by rw [hmany]; decide)] at hR
    have hp2 : ¬ (st.length + 1 = st.length + 2) := by omega
    obtain ⟨s1, hs1⟩ : ∃ s1, s.set (st.length + 2) (.cells [.slice (.own (st.length + 4) 1) 4 [bdSV ⟨0, 0, needsG D b, X⟩], .slice (.own (st.length + 3) v) 1 (G.ints.map i64), .slice .full 0 [], i64 0]) = s1 := ⟨_, rfl⟩
    have hl2' := lt_of_get j2
    have k2 : s1[st.length + 2]? = some (.cells [.slice (.own (st.length + 4) 1) 4 [bdSV ⟨0, 0, needsG D b, X⟩], .slice (.own (st.length + 3) v) 1 (G.ints.map i64), .slice .full 0 [], i64 0]) := by rw [← hs1, set_get hl2']
    have k1 : s1[st.length + 1]? = some (.cells (gOb ⟨st.length + 1, st.length + 3⟩ G v)) := by rw [← hs1, set_get_ne (by omega)]; exact j1
    have k0 : s1[st.length]? = some (.cells [.slice .full 0 [], .slice .full 0 [], .slice .full 0 [], i64 0]) := by rw [← hs1, set_get_ne (by omega)]; exact j0
    have p0 := cells_facts k0
    have p1 := cells_facts k1
    have p2 := cells_facts k2
    have hex1 : ∃ ex, s1 = st ++ ex := by rw [← hs1]; exact ex_set hex (by omega) _
    have hself : s1.set (st.length + 2) (.cells [.slice (.own (st.length + 4) 1) 4 [bdSV ⟨0, 0, needsG D b, X⟩], .slice (.own (st.length + 3) v) 1 (G.ints.map i64), .slice .full 0 [], i64 0]) = s1 := by rw [← hs1, List.set_set]
    simp -implicitDefEqProofs (maxSteps := 2000000) only [↓ops_nil, ↓ops_none, ↓ops_some, ↓kd_eff, ↓dr_nil, ↓dr_cons, ↓d1_none, ↓d1_some, ↓eff_store, ↓eff_box, ↓eff_alloc, ↓eff_build, ↓eff_buildSlice, ↓eff_call, ↓eff_append, ↓eff_copy, ↓eff_clear, ↓eff_make, ↓reduceIte, ↓c_condI, ↓c_seqH, ↓c_blockH, ↓then_nH, ↓then_rH, ↓then_eH, ↓block_nH, ↓block_rH, ↓block_eH, go_sem, n2, n4, q0.1, q0.2.1, q0.2.2, q1.1, q1.2.1, q1.2.2, q2.1, q2.2.1, q2.2.2, gOb, hs1, p0.1, p0.2.1, p0.2.2, p1.1, p1.2.1, p1.2.2, p2.1, p2.2.1, p2.2.2, hself]
    rw [htx] at hR
    obtain ⟨C, hC⟩ : ∃ C : Cd, (⟨[⟨0, 0, needsG D b, X⟩], G.ints, [], 0⟩ : Cd) = C := ⟨_, rfl⟩
    rw [hC] at hR
    have hz : ∀ {m1 m2 m3 : AL.Mode}, CdZ m1 m2 m3 4 1 0 C := ⟨fun _ => rfl, fun _ => rfl, fun e => by rw [← hC] at e; exact absurd rfl e⟩
    have hcd : ∀ m1 m2 m3 : AL.Mode, cdCells m1 m2 m3 4 1 0 C = [.slice m1 4 [bdSV ⟨0, 0, needsG D b, X⟩], .slice m2 1 (G.ints.map i64), .slice m3 0 [], i64 0] := fun _ _ _ => by rw [← hC]; rfl
    rw [← hcd]
    refine rcode_c C hz _ _ ?_
    by_cases hc : refF C = 0
    · rw [if_pos hc] at hR
      have b0 : (refF C != 0) = false := by simp [hc]
      simp -implicitDefEqProofs (maxSteps := 2000000) only [↓ops_nil, ↓ops_none, ↓ops_some, ↓kd_eff, ↓dr_nil, ↓dr_cons, ↓d1_none, ↓d1_some, ↓eff_store, ↓eff_box, ↓eff_alloc, ↓eff_build, ↓eff_buildSlice, ↓eff_call, ↓eff_append, ↓eff_copy, ↓eff_clear, ↓eff_make, ↓reduceIte, ↓c_condI, ↓c_seqH, ↓c_blockH, ↓then_nH, ↓then_rH, ↓then_eH, ↓block_nH, ↓block_rH, ↓block_eH, go_sem, b0, p0.1, p0.2.1, p0.2.2, p2.1, p2.2.1, p2.2.2]
      refine ⟨_, _, _, rfl, ex_set hex1 (Nat.le_refl _) _, ?_, ?_⟩
      · rw [← hcd]; exact ids_codes C
      · have := h _ _ _ hR.symm 4 1 0 hz
        rw [hcd] at this
        exact this
    · rw [if_neg hc] at hR
      have b0 : (refF C != 0) = true := by simp [hc]
      simp -implicitDefEqProofs (maxSteps := 2000000) only [↓ops_nil, ↓ops_none, ↓ops_some, ↓kd_eff, ↓dr_nil, ↓dr_cons, ↓d1_none, ↓d1_some, ↓eff_store, ↓eff_box, ↓eff_alloc, ↓eff_build, ↓eff_buildSlice, ↓eff_call, ↓eff_append, ↓eff_copy, ↓eff_clear, ↓eff_make, ↓reduceIte, ↓c_condI, ↓c_seqH, ↓c_blockH, ↓then_nH, ↓then_rH, ↓then_eH, ↓block_nH, ↓block_rH, ↓block_eH, go_sem, b0, p0.1, p0.2.1, p0.2.2, p2.1, p2.2.1, p2.2.2]
      exact ⟨_, _, _, rfl, ex_set hex1 (Nat.le_refl _) _, ids_codes (m1 := .full) (m2 := .full) (m3 := .full) (z1 := 0) (z2 := 0) (z3 := 0) default, h default 0 1 hR.symm 0 0 0 ⟨fun e => absurd rfl e, fun e => absurd rfl e, fun e => absurd rfl e⟩⟩
end Go.Proofs
set_option linter.unusedSimpArgs false
set_option linter.unusedVariables false
set_option maxRecDepth 8000
namespace Go.Proofs
open Go Go.AL
theorem eq56 (a b c d e f : Int) : aggEqOk Tryz.prog 56 [i64 a, i64 b, i64 c] [i64 d, i64 e, i64 f] := by
  refine ⟨by kernel_rfl, by kernel_rfl, by kernel_rfl, ?_⟩
  have h3 : Tryz.prog.underlying 3 = some (.int .i64) := Tryz.underlying3
  simp only [Program.fieldsOf, Tryz.underlying56]
  refine ⟨⟨by decide, rfl, Tryz.aagg3, rfl, h3⟩, ⟨by decide, rfl, Tryz.aagg3, rfl, h3⟩, ⟨by decide, rfl, Tryz.aagg3, rfl, h3⟩, trivial⟩
theorem eqs_in (a b c : Int) : svsEq [i64 a, i64 b, i64 c] [i64 a, i64 b, i64 c] = true := by
  simp [svsEq, svEq]
theorem cd_norm {z1 z2 z3 : Nat} (c : Cd) (hz : CdZ .imm .imm .imm z1 z2 z3 c) : SVle (.agg (cdCells .imm .imm .imm z1 z2 z3 c)) (.agg (cdCells .imm .imm .imm 4 1 1 c)) := by
  refine SVle.agg (.cons ?_ (.cons ?_ (.cons ?_ (.cons (SVle.refl _) .nil))))
  · rcases Decidable.em (c.funs.length = 0) with h | h
    · rw [List.eq_nil_of_length_eq_zero h]; exact SVle.nil _ _ _ (.inr rfl)
    · rw [hz.f (by intro e; rw [e] at h; exact h rfl)]; exact SVle.refl _
  · rcases Decidable.em (c.ints.length = 0) with h | h
    · rw [List.eq_nil_of_length_eq_zero h]; exact SVle.nil _ _ _ (.inr rfl)
    · rw [hz.i (by intro e; rw [e] at h; exact h rfl)]; exact SVle.refl _
  · rcases Decidable.em (c.texts.length = 0) with h | h
    · rw [List.eq_nil_of_length_eq_zero h]; exact SVle.nil _ _ _ (.inr rfl)
    · rw [hz.t (by intro e; rw [e] at h; exact h rfl)]; exact SVle.refl _
set_option maxHeartbeats 4000000 in
theorem same_go (fs : List Bd) (is : List Int) (ts : List ByteArray) (lets : Int) (h1 : fs.length ≤ 1000000) (h2 : is.length ≤ 1000000) (h3 : ts.length ≤ 1000000) (h4 : ∀ f ∈ fs, f.code.length ≤ 1000000) (K : SV → St → Prop) (st : St) (h : K (.sc (.bool true)) st) :
    ACalls Tryz.prog 6 [.agg [.slice .imm 4 (fs.map bdSV), .slice .imm 1 (is.map i64), .slice .imm 1 (ts.map str), i64 lets], .agg [.slice .imm 4 (fs.map bdSV), .slice .imm 1 (is.map i64), .slice .imm 1 (ts.map str), i64 lets]] K st := by
  have ne1 : ∀ x : Int, (x != x) = false := fun x => by simp
  have ne2 : ∀ x : Nat, ((x : Int) != (x : Int)) = false := fun x => by simp
  have te : ∀ t : ByteArray, (t.toList == t.toList) = true := fun t => beq_self_eq_true _
  refine acalls_go_pure [] Tryz.func6 rfl Tryz.results6 Tryz.ntmps6 ?_
  simp -implicitDefEqProofs (maxSteps := 2000000) only [↓ops_nil, ↓ops_none, ↓ops_some, ↓kd_eff, ↓dr_nil, ↓dr_cons, ↓d1_none, ↓d1_some, ↓eff_store, ↓eff_box, ↓eff_alloc, ↓eff_build, ↓eff_buildSlice, ↓eff_call, ↓eff_append, ↓eff_copy, ↓eff_clear, ↓eff_make, ↓reduceIte, ↓c_condI, ↓c_seqH, ↓c_blockH, ↓then_nH, ↓then_rH, ↓then_eH, ↓block_nH, ↓block_rH, ↓block_eH, go_sem, ne1, ne2, List.length_map]
  refine awp_rounds [] (fun b e s => ∃ k, k + b = is.length ∧ s = st ∧ e = [.any, .any, .ref [.slice .imm 4 (fs.map bdSV), .slice .imm 1 (is.map i64), .slice .imm 1 (ts.map str), i64 lets], .ref [.slice .imm 4 (fs.map bdSV), .slice .imm 1 (is.map i64), .slice .imm 1 (ts.map str), i64 lets], .any, i64 k, .any, .any, .any, .any, .any, .any, .any, .any, .any, .any, .any, .any, .any, .any, .any, .any, .any, .any, .any, .any, .any, .any, .any, .any, .any, .any, .any, .any, .any, .any, .any, .any, .any, .any, .any, .any, .any, .any, .any, .any, .any, .any, .any, .any, .any, .any, .any, .any, .any, .any, .any, .any, .any, .any, .any, .any, .any, .any, .any, .any, .any, .any, .any, .any, .any, .any, .any, .any, .any, .any, .any, .any, .any, .any, .any, .any, .any, .any, .any, .any, .any, .any, .any, .any, .any, .any, .any, .any, .any, .any, .any, .any, .any, .any, .any, .any, .any, .any, .any, .any, .any, .any, .any, .any, .any, .any, .any, .any, .any, .any, .any, .any, .any, .any, .any, .any, .any, .any, .any, .any, .any, .any, .any, .any, .any, .any, .any, .any, .any, .any, .any, .any, .any, .any, .any, .any]) (n := is.length) ?_ ⟨0, by omega, rfl, rfl⟩ ?_
  · repeat (first | exact leEnv_nil | refine leEnv_any _ ?_ | refine leEnv_same _ ?_ | refine leEnv_norm _ ?_)
  rintro b e s ⟨k, hk, rfl, rfl⟩
  by_cases hlt : k < is.length
  · have c1 : (k : Int) < (is.length : Int) := by omega
    have hgt : (is.map i64).getD k .any = i64 is[k] := by simp [List.getD_eq_getElem?_getD, hlt]
    have hw : IntKind.i64.wrap ((k : Int) + 1) = ((k + 1 : Nat) : Int) := by rw [IntWalk.i64_in _ (by omega)]; rfl
    simp -implicitDefEqProofs (maxSteps := 2000000) only [↓ops_nil, ↓ops_none, ↓ops_some, ↓kd_eff, ↓dr_nil, ↓dr_cons, ↓d1_none, ↓d1_some, ↓eff_store, ↓eff_box, ↓eff_alloc, ↓eff_build, ↓eff_buildSlice, ↓eff_call, ↓eff_append, ↓eff_copy, ↓eff_clear, ↓eff_make, ↓reduceIte, ↓c_condI, ↓c_seqH, ↓c_blockH, ↓then_nH, ↓then_rH, ↓then_eH, ↓block_nH, ↓block_rH, ↓block_eH, go_sem, c1, List.length_map]
    refine awp_draw [] Tryz.mixed rfl ?_
    simp -implicitDefEqProofs (maxSteps := 2000000) only [↓ops_nil, ↓ops_none, ↓ops_some, ↓kd_eff, ↓dr_nil, ↓dr_cons, ↓d1_none, ↓d1_some, ↓eff_store, ↓eff_box, ↓eff_alloc, ↓eff_build, ↓eff_buildSlice, ↓eff_call, ↓eff_append, ↓eff_copy, ↓eff_clear, ↓eff_make, ↓reduceIte, ↓c_condI, ↓c_seqH, ↓c_blockH, ↓then_nH, ↓then_rH, ↓then_eH, ↓block_nH, ↓block_rH, ↓block_eH, go_sem, c1, hgt, ne1, hw, List.length_map]
    refine ⟨b - 1, [.any, .any, .ref [.slice .imm 4 (fs.map bdSV), .slice .imm 1 (is.map i64), .slice .imm 1 (ts.map str), i64 lets], .ref [.slice .imm 4 (fs.map bdSV), .slice .imm 1 (is.map i64), .slice .imm 1 (ts.map str), i64 lets], .any, i64 ((k + 1 : Nat) : Int), .any, .any, .any, .any, .any, .any, .any, .any, .any, .any, .any, .any, .any, .any, .any, .any, .any, .any, .any, .any, .any, .any, .any, .any, .any, .any, .any, .any, .any, .any, .any, .any, .any, .any, .any, .any, .any, .any, .any, .any, .any, .any, .any, .any, .any, .any, .any, .any, .any, .any, .any, .any, .any, .any, .any, .any, .any, .any, .any, .any, .any, .any, .any, .any, .any, .any, .any, .any, .any, .any, .any, .any, .any, .any, .any, .any, .any, .any, .any, .any, .any, .any, .any, .any, .any, .any, .any, .any, .any, .any, .any, .any, .any, .any, .any, .any, .any, .any, .any, .any, .any, .any, .any, .any, .any, .any, .any, .any, .any, .any, .any, .any, .any, .any, .any, .any, .any, .any, .any, .any, .any, .any, .any, .any, .any, .any, .any, .any, .any, .any, .any, .any, .any, .any, .any, .any], by omega, ?_, k + 1, by omega, rfl⟩
    repeat (first | exact leEnv_nil | refine leEnv_any _ ?_ | refine leEnv_same _ ?_ | refine leEnv_norm _ ?_)
  have c1 : ¬ (k : Int) < (is.length : Int) := by omega
  simp -implicitDefEqProofs (maxSteps := 2000000) only [↓ops_nil, ↓ops_none, ↓ops_some, ↓kd_eff, ↓dr_nil, ↓dr_cons, ↓d1_none, ↓d1_some, ↓eff_store, ↓eff_box, ↓eff_alloc, ↓eff_build, ↓eff_buildSlice, ↓eff_call, ↓eff_append, ↓eff_copy, ↓eff_clear, ↓eff_make, ↓reduceIte, ↓c_condI, ↓c_seqH, ↓c_blockH, ↓then_nH, ↓then_rH, ↓then_eH, ↓block_nH, ↓block_rH, ↓block_eH, go_sem, c1, List.length_map]
  refine awp_rounds [] (fun b e s' => ∃ k, k + b = ts.length ∧ s' = s ∧ e = [.any, .any, .ref [.slice .imm 4 (fs.map bdSV), .slice .imm 1 (is.map i64), .slice .imm 1 (ts.map str), i64 lets], .ref [.slice .imm 4 (fs.map bdSV), .slice .imm 1 (is.map i64), .slice .imm 1 (ts.map str), i64 lets], .any, .any, i64 k, .any, .any, .any, .any, .any, .any, .any, .any, .any, .any, .any, .any, .any, .any, .any, .any, .any, .any, .any, .any, .any, .any, .any, .any, .any, .any, .any, .any, .any, .any, .any, .any, .any, .any, .any, .any, .any, .any, .any, .any, .any, .any, .any, .any, .any, .any, .any, .any, .any, .any, .any, .any, .any, .any, .any, .any, .any, .any, .any, .any, .any, .any, .any, .any, .any, .any, .any, .any, .any, .any, .any, .any, .any, .any, .any, .any, .any, .any, .any, .any, .any, .any, .any, .any, .any, .any, .any, .any, .any, .any, .any, .any, .any, .any, .any, .any, .any, .any, .any, .any, .any, .any, .any, .any, .any, .any, .any, .any, .any, .any, .any, .any, .any, .any, .any, .any, .any, .any, .any, .any, .any, .any, .any, .any, .any, .any, .any, .any, .any, .any, .any, .any, .any, .any, .any]) (n := ts.length) ?_ ⟨0, by omega, rfl, rfl⟩ ?_
  · repeat (first | exact leEnv_nil | refine leEnv_any _ ?_ | refine leEnv_same _ ?_ | refine leEnv_norm _ ?_)
  clear c1 hlt hk
  rintro b e s' ⟨k, hk, rfl, rfl⟩
  by_cases hlt : k < ts.length
  · have c1 : (k : Int) < (ts.length : Int) := by omega
    have hgt : (ts.map str).getD k .any = str ts[k] := by simp [List.getD_eq_getElem?_getD, hlt]
    have hw : IntKind.i64.wrap ((k : Int) + 1) = ((k + 1 : Nat) : Int) := by rw [IntWalk.i64_in _ (by omega)]; rfl
    simp -implicitDefEqProofs (maxSteps := 2000000) only [↓ops_nil, ↓ops_none, ↓ops_some, ↓kd_eff, ↓dr_nil, ↓dr_cons, ↓d1_none, ↓d1_some, ↓eff_store, ↓eff_box, ↓eff_alloc, ↓eff_build, ↓eff_buildSlice, ↓eff_call, ↓eff_append, ↓eff_copy, ↓eff_clear, ↓eff_make, ↓reduceIte, ↓c_condI, ↓c_seqH, ↓c_blockH, ↓then_nH, ↓then_rH, ↓then_eH, ↓block_nH, ↓block_rH, ↓block_eH, go_sem, c1, List.length_map]
    refine awp_draw [] Tryz.mixed rfl ?_
    simp -implicitDefEqProofs (maxSteps := 2000000) only [↓ops_nil, ↓ops_none, ↓ops_some, ↓kd_eff, ↓dr_nil, ↓dr_cons, ↓d1_none, ↓d1_some, ↓eff_store, ↓eff_box, ↓eff_alloc, ↓eff_build, ↓eff_buildSlice, ↓eff_call, ↓eff_append, ↓eff_copy, ↓eff_clear, ↓eff_make, ↓reduceIte, ↓c_condI, ↓c_seqH, ↓c_blockH, ↓then_nH, ↓then_rH, ↓then_eH, ↓block_nH, ↓block_rH, ↓block_eH, go_sem, c1, hgt, te, hw, List.length_map]
    refine ⟨b - 1, [.any, .any, .ref [.slice .imm 4 (fs.map bdSV), .slice .imm 1 (is.map i64), .slice .imm 1 (ts.map str), i64 lets], .ref [.slice .imm 4 (fs.map bdSV), .slice .imm 1 (is.map i64), .slice .imm 1 (ts.map str), i64 lets], .any, .any, i64 ((k + 1 : Nat) : Int), .any, .any, .any, .any, .any, .any, .any, .any, .any, .any, .any, .any, .any, .any, .any, .any, .any, .any, .any, .any, .any, .any, .any, .any, .any, .any, .any, .any, .any, .any, .any, .any, .any, .any, .any, .any, .any, .any, .any, .any, .any, .any, .any, .any, .any, .any, .any, .any, .any, .any, .any, .any, .any, .any, .any, .any, .any, .any, .any, .any, .any, .any, .any, .any, .any, .any, .any, .any, .any, .any, .any, .any, .any, .any, .any, .any, .any, .any, .any, .any, .any, .any, .any, .any, .any, .any, .any, .any, .any, .any, .any, .any, .any, .any, .any, .any, .any, .any, .any, .any, .any, .any, .any, .any, .any, .any, .any, .any, .any, .any, .any, .any, .any, .any, .any, .any, .any, .any, .any, .any, .any, .any, .any, .any, .any, .any, .any, .any, .any, .any, .any, .any, .any, .any, .any], by omega, ?_, k + 1, by omega, rfl⟩
    repeat (first | exact leEnv_nil | refine leEnv_any _ ?_ | refine leEnv_same _ ?_ | refine leEnv_norm _ ?_)
  have c1 : ¬ (k : Int) < (ts.length : Int) := by omega
  simp -implicitDefEqProofs (maxSteps := 2000000) only [↓ops_nil, ↓ops_none, ↓ops_some, ↓kd_eff, ↓dr_nil, ↓dr_cons, ↓d1_none, ↓d1_some, ↓eff_store, ↓eff_box, ↓eff_alloc, ↓eff_build, ↓eff_buildSlice, ↓eff_call, ↓eff_append, ↓eff_copy, ↓eff_clear, ↓eff_make, ↓reduceIte, ↓c_condI, ↓c_seqH, ↓c_blockH, ↓then_nH, ↓then_rH, ↓then_eH, ↓block_nH, ↓block_rH, ↓block_eH, go_sem, c1, List.length_map]
  refine awp_rounds [] (fun b e s1 => ∃ k ex, k + b = fs.length ∧ s1 = s' ++ ex ∧ e = [.any, .any, .ref [.slice .imm 4 (fs.map bdSV), .slice .imm 1 (is.map i64), .slice .imm 1 (ts.map str), i64 lets], .ref [.slice .imm 4 (fs.map bdSV), .slice .imm 1 (is.map i64), .slice .imm 1 (ts.map str), i64 lets], .any, .any, .any, i64 k, .any, .any, .any, .any, .any, .any, .any, .any, .any, .any, .any, .any, .any, .any, .any, .any, .any, .any, .any, .any, .any, .any, .any, .any, .any, .any, .any, .any, .any, .any, .any, .any, .any, .any, .any, .any, .any, .any, .any, .any, .any, .any, .any, .any, .any, .any, .any, .any, .any, .any, .any, .any, .any, .any, .any, .any, .any, .any, .any, .any, .any, .any, .any, .any, .any, .any, .any, .any, .any, .any, .any, .any, .any, .any, .any, .any, .any, .any, .any, .any, .any, .any, .any, .any, .any, .any, .any, .any, .any, .any, .any, .any, .any, .any, .any, .any, .any, .any, .any, .any, .any, .any, .any, .any, .any, .any, .any, .any, .any, .any, .any, .any, .any, .any, .any, .any, .any, .any, .any, .any, .any, .any, .any, .any, .any, .any, .any, .any, .any, .any, .any, .any, .any, .any]) (n := fs.length) ?_ ⟨0, [], by omega, by simp, rfl⟩ ?_
  · repeat (first | exact leEnv_nil | refine leEnv_any _ ?_ | refine leEnv_same _ ?_ | refine leEnv_norm _ ?_)
  clear c1 hlt hk
  rintro b e s1 ⟨k, ex, hk, rfl, rfl⟩
  by_cases hlt : k < fs.length
  · have c1 : (k : Int) < (fs.length : Int) := by omega
    have hgt : (fs.map bdSV).getD k .any = bdSV fs[k] := by simp [List.getD_eq_getElem?_getD, hlt]
    have hcl := h4 _ (List.getElem_mem hlt)
    generalize fs[k] = f at hgt hcl
    have hw : IntKind.i64.wrap ((k : Int) + 1) = ((k + 1 : Nat) : Int) := by rw [IntWalk.i64_in _ (by omega)]; rfl
    obtain ⟨S2, hS2⟩ : ∃ S2, s' ++ (ex ++ [Ob.cells [i64 f.kept, i64 f.locals, i64 f.stack, .slice .imm 3 (f.code.map inSV)], Ob.cells [i64 f.kept, i64 f.locals, i64 f.stack, .slice .imm 3 (f.code.map inSV)]]) = S2 := ⟨_, rfl⟩
    have g1 : S2[s'.length + ex.length]? = some (.cells [i64 f.kept, i64 f.locals, i64 f.stack, .slice .imm 3 (f.code.map inSV)]) := by rw [← hS2, ← List.append_assoc, List.getElem?_append_right (by simp)]; simp
    have g2 : S2[s'.length + (ex.length + 1)]? = some (.cells [i64 f.kept, i64 f.locals, i64 f.stack, .slice .imm 3 (f.code.map inSV)]) := by rw [← hS2, ← List.append_assoc, List.getElem?_append_right (by simp)]; simp [show s'.length + (ex.length + 1) - (s'.length + ex.length) = 1 by omega]
    have r1 := cells_facts g1
    have r2 := cells_facts g2
    simp -implicitDefEqProofs (maxSteps := 2000000) only [↓ops_nil, ↓ops_none, ↓ops_some, ↓kd_eff, ↓dr_nil, ↓dr_cons, ↓d1_none, ↓d1_some, ↓eff_store, ↓eff_box, ↓eff_alloc, ↓eff_build, ↓eff_buildSlice, ↓eff_call, ↓eff_append, ↓eff_copy, ↓eff_clear, ↓eff_make, ↓reduceIte, ↓c_condI, ↓c_seqH, ↓c_blockH, ↓then_nH, ↓then_rH, ↓then_eH, ↓block_nH, ↓block_rH, ↓block_eH, go_sem, c1, hgt, bdSV, insSV, List.length_map, ne1, ne2]
    rw [hS2]
    refine awp_rounds [] (fun b2 e s2 => ∃ j, j + b2 = f.code.length ∧ s2 = S2 ∧ e = [.any, .any, .ref [.slice .imm 4 (fs.map bdSV), .slice .imm 1 (is.map i64), .slice .imm 1 (ts.map str), i64 lets], .ref [.slice .imm 4 (fs.map bdSV), .slice .imm 1 (is.map i64), .slice .imm 1 (ts.map str), i64 lets], .any, .any, .any, i64 k, .ptr (s'.length + ex.length) 0, .ptr (s'.length + (ex.length + 1)) 0, i64 j, .any, .any, .any, .any, .any, .any, .any, .any, .any, .any, .any, .any, .any, .any, .any, .any, .any, .any, .any, .any, .any, .any, .any, .any, .any, .any, .any, .any, .any, .any, .any, .any, .any, .any, .any, .any, .any, .any, .any, .any, .any, .any, .any, .any, .any, .any, .any, .any, .any, .any, .any, .any, .any, .any, .any, .any, .any, .any, .any, .any, .any, .any, .any, .any, .any, .any, .any, .any, .any, .any, .any, .any, .any, .any, .any, .any, .any, .any, .any, .any, .any, .any, .any, .any, .any, .any, .any, .any, .any, .any, .any, .any, .any, .any, .any, .any, .any, .any, .any, .any, .any, .any, .any, .any, .any, .any, .any, .any, .any, .any, .any, .any, .any, .any, .any, .any, .any, .any, .any, .any, .any, .any, .any, .any, .any, .any, .any, .any, .any, .any, .any]) (n := f.code.length) ?_ ⟨0, by omega, rfl, rfl⟩ ?_
    · repeat (first | exact leEnv_nil | refine leEnv_any _ ?_ | refine leEnv_same _ ?_ | refine leEnv_norm _ ?_)
    rintro b2 e s2 ⟨j, hj, rfl, rfl⟩
    by_cases hlj : j < f.code.length
    · have d1 : (j : Int) < (f.code.length : Int) := by omega
      have hgj : (f.code.map inSV).getD j .any = inSV f.code[j] := by simp [List.getD_eq_getElem?_getD, hlj]
      have hwj : IntKind.i64.wrap ((j : Int) + 1) = ((j + 1 : Nat) : Int) := by rw [IntWalk.i64_in _ (by omega)]; rfl
      generalize f.code[j] = x at hgj
      simp -implicitDefEqProofs (maxSteps := 2000000) only [↓ops_nil, ↓ops_none, ↓ops_some, ↓kd_eff, ↓dr_nil, ↓dr_cons, ↓d1_none, ↓d1_some, ↓eff_store, ↓eff_box, ↓eff_alloc, ↓eff_build, ↓eff_buildSlice, ↓eff_call, ↓eff_append, ↓eff_copy, ↓eff_clear, ↓eff_make, ↓reduceIte, ↓c_condI, ↓c_seqH, ↓c_blockH, ↓then_nH, ↓then_rH, ↓then_eH, ↓block_nH, ↓block_rH, ↓block_eH, go_sem, d1, r1.1, r1.2.1, r1.2.2, r2.1, r2.2.1, r2.2.2, List.length_map]
      refine awp_draw [] Tryz.mixed rfl ?_
      simp -implicitDefEqProofs (maxSteps := 2000000) only [↓ops_nil, ↓ops_none, ↓ops_some, ↓kd_eff, ↓dr_nil, ↓dr_cons, ↓d1_none, ↓d1_some, ↓eff_store, ↓eff_box, ↓eff_alloc, ↓eff_build, ↓eff_buildSlice, ↓eff_call, ↓eff_append, ↓eff_copy, ↓eff_clear, ↓eff_make, ↓reduceIte, ↓c_condI, ↓c_seqH, ↓c_blockH, ↓then_nH, ↓then_rH, ↓then_eH, ↓block_nH, ↓block_rH, ↓block_eH, go_sem, d1, hgj, inSV, inCells, ne1, hwj, eqs_in, r1.1, r1.2.1, r1.2.2, r2.1, r2.2.1, r2.2.2, List.length_map]
      refine ⟨eq56 _ _ _ _ _ _, b2 - 1, [.any, .any, .ref [.slice .imm 4 (fs.map bdSV), .slice .imm 1 (is.map i64), .slice .imm 1 (ts.map str), i64 lets], .ref [.slice .imm 4 (fs.map bdSV), .slice .imm 1 (is.map i64), .slice .imm 1 (ts.map str), i64 lets], .any, .any, .any, i64 k, .ptr (s'.length + ex.length) 0, .ptr (s'.length + (ex.length + 1)) 0, i64 ((j + 1 : Nat) : Int), .any, .any, .any, .any, .any, .any, .any, .any, .any, .any, .any, .any, .any, .any, .any, .any, .any, .any, .any, .any, .any, .any, .any, .any, .any, .any, .any, .any, .any, .any, .any, .any, .any, .any, .any, .any, .any, .any, .any, .any, .any, .any, .any, .any, .any, .any, .any, .any, .any, .any, .any, .any, .any, .any, .any, .any, .any, .any, .any, .any, .any, .any, .any, .any, .any, .any, .any, .any, .any, .any, .any, .any, .any, .any, .any, .any, .any, .any, .any, .any, .any, .any, .any, .any, .any, .any, .any, .any, .any, .any, .any, .any, .any, .any, .any, .any, .any, .any, .any, .any, .any, .any, .any, .any, .any, .any, .any, .any, .any, .any, .any, .any, .any, .any, .any, .any, .any, .any, .any, .any, .any, .any, .any, .any, .any, .any, .any, .any, .any, .any, .any], by omega, ?_, j + 1, by omega, rfl⟩
      repeat (first | exact leEnv_nil | refine leEnv_any _ ?_ | refine leEnv_same _ ?_ | refine leEnv_norm _ ?_)
    have d1 : ¬ (j : Int) < (f.code.length : Int) := by omega
    simp -implicitDefEqProofs (maxSteps := 2000000) only [↓ops_nil, ↓ops_none, ↓ops_some, ↓kd_eff, ↓dr_nil, ↓dr_cons, ↓d1_none, ↓d1_some, ↓eff_store, ↓eff_box, ↓eff_alloc, ↓eff_build, ↓eff_buildSlice, ↓eff_call, ↓eff_append, ↓eff_copy, ↓eff_clear, ↓eff_make, ↓reduceIte, ↓c_condI, ↓c_seqH, ↓c_blockH, ↓then_nH, ↓then_rH, ↓then_eH, ↓block_nH, ↓block_rH, ↓block_eH, go_sem, d1, hw, r1.1, r1.2.1, r1.2.2, r2.1, r2.2.1, r2.2.2, List.length_map]
    refine ⟨b - 1, [.any, .any, .ref [.slice .imm 4 (fs.map bdSV), .slice .imm 1 (is.map i64), .slice .imm 1 (ts.map str), i64 lets], .ref [.slice .imm 4 (fs.map bdSV), .slice .imm 1 (is.map i64), .slice .imm 1 (ts.map str), i64 lets], .any, .any, .any, i64 ((k + 1 : Nat) : Int), .any, .any, .any, .any, .any, .any, .any, .any, .any, .any, .any, .any, .any, .any, .any, .any, .any, .any, .any, .any, .any, .any, .any, .any, .any, .any, .any, .any, .any, .any, .any, .any, .any, .any, .any, .any, .any, .any, .any, .any, .any, .any, .any, .any, .any, .any, .any, .any, .any, .any, .any, .any, .any, .any, .any, .any, .any, .any, .any, .any, .any, .any, .any, .any, .any, .any, .any, .any, .any, .any, .any, .any, .any, .any, .any, .any, .any, .any, .any, .any, .any, .any, .any, .any, .any, .any, .any, .any, .any, .any, .any, .any, .any, .any, .any, .any, .any, .any, .any, .any, .any, .any, .any, .any, .any, .any, .any, .any, .any, .any, .any, .any, .any, .any, .any, .any, .any, .any, .any, .any, .any, .any, .any, .any, .any, .any, .any, .any, .any, .any, .any, .any, .any, .any], by omega, ?_, k + 1, ex ++ [Ob.cells [i64 f.kept, i64 f.locals, i64 f.stack, .slice .imm 3 (f.code.map inSV)], Ob.cells [i64 f.kept, i64 f.locals, i64 f.stack, .slice .imm 3 (f.code.map inSV)]], by omega, hS2.symm, rfl⟩
    repeat (first | exact leEnv_nil | refine leEnv_any _ ?_ | refine leEnv_same _ ?_ | refine leEnv_norm _ ?_)
  have c1 : ¬ (k : Int) < (fs.length : Int) := by omega
  simp -implicitDefEqProofs (maxSteps := 2000000) only [↓ops_nil, ↓ops_none, ↓ops_some, ↓kd_eff, ↓dr_nil, ↓dr_cons, ↓d1_none, ↓d1_some, ↓eff_store, ↓eff_box, ↓eff_alloc, ↓eff_build, ↓eff_buildSlice, ↓eff_call, ↓eff_append, ↓eff_copy, ↓eff_clear, ↓eff_make, ↓reduceIte, ↓c_condI, ↓c_seqH, ↓c_blockH, ↓then_nH, ↓then_rH, ↓then_eH, ↓block_nH, ↓block_rH, ↓block_eH, go_sem, c1, List.length_map]
  exact ⟨⟨_, rfl⟩, .sc _, h⟩
theorem csame_c (c : Cd) (h1 : c.funs.length ≤ 1000000) (h2 : c.ints.length ≤ 1000000) (h3 : c.texts.length ≤ 1000000) (h4 : ∀ f ∈ c.funs, f.code.length ≤ 1000000) {z1 z2 z3 y1 y2 y3 : Nat} (hz : CdZ .imm .imm .imm z1 z2 z3 c) (hy : CdZ .imm .imm .imm y1 y2 y3 c) (K : SV → St → Prop) (st : St) (h : K (.sc (.bool true)) st) :
    ACalls Tryz.prog 6 [.agg (cdCells .imm .imm .imm z1 z2 z3 c), .agg (cdCells .imm .imm .imm y1 y2 y3 c)] K st :=
  acalls_args (.cons (cd_norm c hz) (.cons (cd_norm c hy) .nil)) (same_go c.funs c.ints c.texts c.lets h1 h2 h3 h4 K st h)
end Go.Proofs
