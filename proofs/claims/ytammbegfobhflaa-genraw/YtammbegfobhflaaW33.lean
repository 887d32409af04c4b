/- lives; the law. -/
import Derived.Test.YtammbegfobhflaaW31
import Derived.Test.YtammbegfobhflaaW44
import Derived.Test.YtammbegfobhflaaM1
set_option linter.all false
set_option linter.unusedSimpArgs false
set_option linter.unusedVariables false
set_option maxRecDepth 8000
namespace Go.AL
theorem SVle.elemsG {m : Mode} {z : Nat} {xs ys : List SV} (hl : xs.length = ys.length) (h : ∀ i, i < xs.length → (xs.getD i .any).cells.length = (ys.getD i .any).cells.length ∧ ∀ j, SVle ((xs.getD i .any).cells.getD j .any) ((ys.getD i .any).cells.getD j .any)) : SVle (.slice m z xs) (.slice .imm z ys) := by
  intro st σ w v hv
  have hv : Rep st σ w (.slice .imm z xs) v := hv.norm
  generalize hx : SV.slice .imm z xs = x at hv
  cases hv with
  | nil m z hm => cases hx; rw [List.eq_nil_of_length_eq_zero hl.symm]; exact .nil _ _ trivial
  | slice m z l a cap vals hcap hsp hzz hc hr hm =>
    cases hx
    rw [hl]
    refine .slice .imm z ys a cap vals (by omega) (fun e => hsp (fun e2 => e (by rw [e2] at hl; exact List.eq_nil_of_length_eq_zero hl.symm))) (fun i hi => ?_) (fun i j hi hj => hc i j (by omega) hj) (fun i j hi hj => ?_) trivial
    · rw [← (h i (by omega)).1]; exact hzz i (by omega)
    · exact (h i (by omega)).2 j _ _ _ _ (hr i j (by omega) hj)
  | _ => cases hx
end Go.AL
namespace Go.Proofs
open Go Go.AL
theorem live_x : SVle (.slice .imm 9 [.agg [i64 1, i64 1, str ⟨#[]⟩, .slice .imm 0 [], i64 0, .slice .imm 0 [], .slice .imm 0 [], .slice .imm 0 [], .slice .imm 0 []], .agg [i64 1, i64 1, str ⟨#[]⟩, .slice .imm 0 [], i64 0, .slice .imm 0 [], .slice .imm 0 [], .slice .imm 0 [], .slice .imm 0 []]]) (cosSV [liveX, liveX]) := by
  have hs : SVles [i64 1, i64 1, str ⟨#[]⟩, .slice .imm 0 [], i64 0, .slice .imm 0 [], .slice .imm 0 [], .slice .imm 0 [], .slice .imm 0 []] [i64 1, i64 1, str ⟨#[]⟩, .slice .imm 9 [], i64 0, .slice .imm 1 [], .slice .imm 6 [], .slice .imm 4 [], .slice .imm 1 []] :=
    .cons (SVle.refl _) (.cons (SVle.refl _) (.cons (SVle.refl _) (.cons (SVle.nil _ _ _ (.inr rfl)) (.cons (SVle.refl _) (.cons (SVle.nil _ _ _ (.inr rfl)) (.cons (SVle.nil _ _ _ (.inr rfl)) (.cons (SVle.nil _ _ _ (.inr rfl)) (.cons (SVle.nil _ _ _ (.inr rfl)) .nil))))))))
  have hx : coSV liveX = .agg [i64 1, i64 1, str ⟨#[]⟩, .slice .imm 9 [], i64 0, .slice .imm 1 [], .slice .imm 6 [], .slice .imm 4 [], .slice .imm 1 []] := rfl
  unfold cosSV
  rw [List.map_cons, List.map_cons, List.map_nil, hx]
  refine SVle.elemsG rfl fun i hi => ?_
  match i, hi with
  | 0, _ => exact ⟨rfl, fun j => hs.at j⟩
  | 1, _ => exact ⟨rfl, fun j => hs.at j⟩
theorem live_arg : SVle (.slice .full 11 [.agg [i64 0, i64 0, i64 14, i64 0, str ⟨#[43]⟩, .slice .imm 9 [.agg [i64 1, i64 1, str ⟨#[]⟩, .slice .imm 0 [], i64 0, .slice .imm 0 [], .slice .imm 0 [], .slice .imm 0 [], .slice .imm 0 []], .agg [i64 1, i64 1, str ⟨#[]⟩, .slice .imm 0 [], i64 0, .slice .imm 0 [], .slice .imm 0 [], .slice .imm 0 [], .slice .imm 0 []]], i64 0, .slice .imm 0 [], .slice .imm 0 [], .slice .imm 0 [], .slice .imm 0 []]]) (.slice .imm 11 ([liveF].map fuSV)) := by
  have hs : SVles [i64 0, i64 0, i64 14, i64 0, str ⟨#[43]⟩, .slice .imm 9 [.agg [i64 1, i64 1, str ⟨#[]⟩, .slice .imm 0 [], i64 0, .slice .imm 0 [], .slice .imm 0 [], .slice .imm 0 [], .slice .imm 0 []], .agg [i64 1, i64 1, str ⟨#[]⟩, .slice .imm 0 [], i64 0, .slice .imm 0 [], .slice .imm 0 [], .slice .imm 0 [], .slice .imm 0 []]], i64 0, .slice .imm 0 [], .slice .imm 0 [], .slice .imm 0 [], .slice .imm 0 []] (fuCells liveF) :=
    .cons (SVle.refl _) (.cons (SVle.refl _) (.cons (SVle.refl _) (.cons (SVle.refl _) (.cons (SVle.refl _) (.cons live_x (.cons (SVle.refl _) (.cons (SVle.nil _ _ _ (.inr rfl)) (.cons (SVle.nil _ _ _ (.inr rfl)) (.cons (SVle.nil _ _ _ (.inr rfl)) (.cons (SVle.nil _ _ _ (.inr rfl)) .nil))))))))))
  refine SVle.elemsG rfl fun i hi => ?_
  match i, hi with
  | 0, _ => exact ⟨rfl, fun j => hs.at j⟩
set_option maxHeartbeats 4000000 in
theorem lives_c {gid : Nat} {gm : Int} (K : SV → St → Prop) (st : St) (hg : st[gid]? = some (Ob.glob 0 (.int .i64 gm))) (h : K (.sc (.bool true)) st) : ACalls Try.prog 6 [] K st := by
  refine acalls_go_pure [] Try.func6 rfl Try.results6 Try.ntmps6 ?_
  simp -implicitDefEqProofs (maxSteps := 2000000) only [↓ops_nil, ↓ops_none, ↓ops_some, ↓kd_eff, ↓dr_nil, ↓dr_cons, ↓d1_none, ↓d1_some, ↓eff_store, ↓eff_box, ↓eff_alloc, ↓eff_build, ↓eff_buildSlice, ↓eff_call, ↓eff_append, ↓eff_copy, ↓eff_clear, ↓eff_make, ↓reduceIte, ↓c_condI, ↓c_seqH, ↓c_blockH, ↓then_nH, ↓then_rH, ↓then_eH, ↓block_nH, ↓block_rH, ↓block_eH, go_sem]
  refine acalls_args (args' := [.slice .imm 11 ([liveF].map fuSV), .slice .full 0 [], i64 0]) (.cons live_arg (.cons (SVle.refl _) (.cons (SVle.refl _) .nil))) ?_
  refine gen_c 3 (by omega) 0 [liveF] (by simp) ?_ .imm _ _ (get_app hg _) fun c k e hgen z1 z2 z3 hz => ?_
  · intro f hf
    simp only [List.mem_singleton] at hf
    subst hf
    refine ⟨⟨by simp [liveF, Co.kids], by simp [liveF, Co.binds], fun l hl => by cases hl⟩, fun k hk => ?_, fun _ => Nat.succ_pos _⟩
    have hk : k ∈ [liveX, liveX] := hk
    simp only [List.mem_cons, List.not_mem_nil, or_false, or_self] at hk
    subst hk
    exact ⟨⟨by simp [liveX, Co.kids], by simp [liveX, Co.binds], fun l hl => by cases hl⟩, fun k hk => (by cases hk), fun _ => Nat.succ_pos _⟩
  rw [live_gen] at hgen
  cases hgen
  obtain rfl := hz.f (by simp [liveC])
  obtain rfl := hz.i (by simp [liveC])
  clear hz
  have b1 : (((1 : Nat) : Int) != 1) = false := rfl
  have b2 : (((4 : Nat) : Int) != 4) = false := rfl
  have b3 : (((1 : Nat) : Int) == 1) = true := rfl
  have hcd : cdCells .imm .imm .imm 4 1 z3 liveC = [.slice .imm 4 [bdSV ⟨0, 0, 2, [⟨1, 0, 0⟩, ⟨1, 0, 0⟩, ⟨19, 0, 0⟩, ⟨15, 0, 0⟩]⟩], .slice .imm 1 [i64 1], .slice .imm z3 [], i64 0] := rfl
  rw [hcd]
  have t2 : Int.toNat 2 = 2 := rfl
  have t3 : Int.toNat 3 = 3 := rfl
  have n1 : ((0 : Int) < ((1 : Nat) : Int)) = True := eq_true (by decide)
  have n2 : ((2 : Int) < ((4 : Nat) : Int)) = True := eq_true (by decide)
  have n3 : ((3 : Int) < ((4 : Nat) : Int)) = True := eq_true (by decide)
  simp -implicitDefEqProofs (maxSteps := 2000000) only [↓ops_nil, ↓ops_none, ↓ops_some, ↓kd_eff, ↓dr_nil, ↓dr_cons, ↓d1_none, ↓d1_some, ↓eff_store, ↓eff_box, ↓eff_alloc, ↓eff_build, ↓eff_buildSlice, ↓eff_call, ↓eff_append, ↓eff_copy, ↓eff_clear, ↓eff_make, ↓reduceIte, ↓c_condI, ↓c_seqH, ↓c_blockH, ↓then_nH, ↓then_rH, ↓then_eH, ↓block_nH, ↓block_rH, ↓block_eH, go_sem, t2, t3, n1, n2, n3, bdSV, insSV, inSV, inCells, List.map_cons, List.map_nil, b1, b2, b3, Int.reduceBEq, Int.reduceBNe]
  exact ⟨⟨_, rfl⟩, .sc _, h⟩
end Go.Proofs
namespace Go.AL
structure FI where
  kept : Int
  locals : Int
  body : CI
def fiSV (f : FI) : SV := .agg [i64 f.kept, i64 f.locals, i64 f.body.kind, i64 f.body.number, str f.body.text, .slice .imm 9 (f.body.kids.map ciSV), i64 f.body.row, .slice .imm 1 (f.body.path.map i64), .slice .imm 6 f.body.cs, .slice .imm 4 f.body.rs, .slice .imm 1 (f.body.binds.map bnsSV)]
def fuI (f : FI) : Fu := ⟨f.kept, f.locals, cutI 5 f.body⟩
end Go.AL
namespace Go.Proofs
open Go Go.AL
theorem Try.app22 {n : Nat} (h : n ≤ 1000000) : AppOk Try.prog 22 22 11 n := appOk_of Try.aelem22 Try.aelem22 Try.asize33 Try.azero33 rfl Try.abytes33 (by omega) h
theorem cutA (d : Nat) (hd : d ≤ 1000) (c : CI) (K : SV → St → Prop) (st : St) (h : K (coSV (cutI d c)) st) : ACalls Try.prog 4 [.agg [i64 c.kind, i64 c.number, str c.text, .slice .imm 9 (c.kids.map ciSV), i64 c.row, .slice .imm 1 (c.path.map i64), .slice .imm 6 c.cs, .slice .imm 4 c.rs, .slice .imm 1 (c.binds.map bnsSV)], i64 d] K st := by
  rw [← ciSV_eq]
  exact cut_c d hd c K st h
theorem ids_fu (n : Nat) (f : Fu) : Ids n (fuSV f) := by
  unfold fuSV fuCells
  simp only [ids_agg, List.forall_mem_cons, ids_sc, true_and]
  exact ⟨ids_cos n _, ids_nil n _ _ (.inl rfl), ids_nil n _ _ (.inl rfl), ids_nil n _ _ (.inl rfl), ids_bds n _, fun x hx => by cases hx⟩
theorem ids_fus (n : Nat) (f : Fu) : Ids n (.slice .full 11 [fuSV f]) := ids_slice (.inr rfl) fun y hy z hz => by
  simp only [List.mem_singleton] at hy
  subst hy
  have := ids_co n f.body
  rw [coSV_eq, ids_agg] at this
  simp only [fuSV, fuCells, SV.cells, List.mem_cons, List.not_mem_nil, or_false] at hz
  simp only [List.mem_cons, List.not_mem_nil, or_false, forall_eq_or_imp, forall_eq] at this
  rcases hz with rfl | rfl | rfl | rfl | rfl | rfl | rfl | rfl | rfl | rfl | rfl
  · exact .sc _
  · exact .sc _
  · exact .sc _
  · exact .sc _
  · exact .sc _
  · exact ids_cos n _
  · exact .sc _
  · exact ids_nil n _ _ (.inl rfl)
  · exact ids_nil n _ _ (.inl rfl)
  · exact ids_nil n _ _ (.inl rfl)
  · exact ids_bds n _
set_option maxHeartbeats 4000000 in
theorem law_c (l : List FI) (lets : Int) {gid : Nat} {gm : Int} (K : SV → St → Prop) (st : St) (hg : st[gid]? = some (Ob.glob 0 (.int .i64 gm))) (h : K (.sc (.bool true)) st) : ACalls Try.prog 3 [.slice .imm 11 (l.map fiSV), i64 lets] K st := by
  have fin : ∀ s, (∃ ex, s = st ++ ex) → FinK st K (.sc (.bool true)) s := fun s hex => ⟨hex, .sc _, h⟩
  refine acalls_go_pure [] Try.func3 rfl Try.results3 Try.ntmps3 ?_
  simp -implicitDefEqProofs (maxSteps := 2000000) only [↓ops_nil, ↓ops_none, ↓ops_some, ↓kd_eff, ↓dr_nil, ↓dr_cons, ↓d1_none, ↓d1_some, ↓eff_store, ↓eff_box, ↓eff_alloc, ↓eff_build, ↓eff_buildSlice, ↓eff_call, ↓eff_append, ↓eff_copy, ↓eff_clear, ↓eff_make, ↓reduceIte, ↓c_condI, ↓c_seqH, ↓c_blockH, ↓then_nH, ↓then_rH, ↓then_eH, ↓block_nH, ↓block_rH, ↓block_eH, go_sem, List.length_map]
  refine awp_own 5 11 0 rfl ?_
  refine awp_rounds [] (fun b e s => ∃ k v, k + b = 3 ∧ k ≤ l.length ∧ s = st ++ [Ob.tok v] ∧ e = [.slice .imm 11 (l.map fiSV), i64 lets, .any, .any, .any, .slice (.own st.length v) 11 (((l.take k).map fuI).map fuSV), i64 k, .any, .any, .any, .any, .any, .any, .any, .any, .any, .any, .any, .any, .any, .any, .any, .any, .any, .any, .any, .any, .any, .any, .any, .any, .any, .any, .any, .any, .any, .any, .any, .any, .any, .any, .any, .any, .any, .any, .any, .any, .any, .any, .any, .any, .any, .any, .any, .any, .any, .any, .any, .any, .any, .any, .any, .any, .any, .any, .any, .any, .any, .any, .any, .any, .any, .any, .any, .any, .any, .any, .any, .any, .any, .any, .any]) (n := 3) ?_ ⟨0, 0, by omega, by omega, rfl, rfl⟩ ?_
  · simp only [List.set_cons_succ, List.set_cons_zero]
    repeat (first | exact leEnv_nil | refine leEnv_any _ ?_ | refine leEnv_same _ ?_ | refine leEnv_norm _ ?_)
  rintro b e s ⟨k, v, hk, hkl, rfl, rfl⟩
  have hw : IntKind.i64.wrap ((k : Int) + 1) = ((k + 1 : Nat) : Int) := by rw [IntWalk.i64_in _ (by omega)]; rfl
  by_cases hgo : k < l.length ∧ k < 3
  · obtain ⟨h1, h2⟩ := hgo
    have d1 : (k : Int) < (l.length : Int) := by omega
    have d2 : (k : Int) < 3 := by omega
    have hgk : (l.map fiSV).getD k .any = fiSV l[k] := by simp [List.getD_eq_getElem?_getD, h1]
    have happ := Try.app22 (n := k + 1) (by omega)
    have hlk : (l.take k).length = k := by simp; omega
    have hsn : (l.take (k + 1)).map fuI = (l.take k).map fuI ++ [fuI l[k]] := by rw [List.take_succ_eq_append_getElem h1, List.map_append]; rfl
    have hsn2 : ((l.take (k + 1)).map fuI).map fuSV = ((l.take k).map fuI).map fuSV ++ [fuSV (fuI l[k])] := by rw [hsn, List.map_append]; rfl
    generalize l[k] = f at *
    simp -implicitDefEqProofs (maxSteps := 2000000) only [↓ops_nil, ↓ops_none, ↓ops_some, ↓kd_eff, ↓dr_nil, ↓dr_cons, ↓d1_none, ↓d1_some, ↓eff_store, ↓eff_box, ↓eff_alloc, ↓eff_build, ↓eff_buildSlice, ↓eff_call, ↓eff_append, ↓eff_copy, ↓eff_clear, ↓eff_make, ↓reduceIte, ↓c_condI, ↓c_seqH, ↓c_blockH, ↓then_nH, ↓then_rH, ↓then_eH, ↓block_nH, ↓block_rH, ↓block_eH, go_sem, d1, d2, List.length_map]
    refine awp_drawW [] [(0, []), (0, []), (0, []), (0, []), (0, []), (0, []), (0, []), (0, []), (0, []), (0, []), (0, []), (0, []), (0, []), (0, []), (0, []), (0, []), (0, []), (0, []), (0, []), (3, [21]), (0, [])] Try.mixed rfl ?_
    simp -implicitDefEqProofs (maxSteps := 2000000) only [↓ops_nil, ↓ops_none, ↓ops_some, ↓kd_eff, ↓dr_nil, ↓dr_cons, ↓d1_none, ↓d1_some, ↓eff_store, ↓eff_box, ↓eff_alloc, ↓eff_build, ↓eff_buildSlice, ↓eff_call, ↓eff_append, ↓eff_copy, ↓eff_clear, ↓eff_make, ↓reduceIte, ↓c_condI, ↓c_seqH, ↓c_blockH, ↓then_nH, ↓then_rH, ↓then_eH, ↓block_nH, ↓block_rH, ↓block_eH, go_sem, drawW_n, drawW_0, drawW_1, drawW_2, drawW_3, pend_n, pend_c, headD_c, isStore_s, List.length_map, d1, hgk, fiSV]
    rw [dk_eff]
    refine ⟨.agg [i64 (fuI f).body.kind, i64 (fuI f).body.number, str (fuI f).body.text, cosSV (fuI f).body.kids, i64 0, .slice .imm 1 [], .slice .imm 6 [], .slice .imm 4 [], bdsSV (fuI f).body.binds], ?_, ?_⟩
    · simp -implicitDefEqProofs (maxSteps := 2000000) only [↓ops_nil, ↓ops_none, ↓ops_some, ↓kd_eff, ↓dr_nil, ↓dr_cons, ↓d1_none, ↓d1_some, ↓eff_store, ↓eff_box, ↓eff_alloc, ↓eff_build, ↓eff_buildSlice, ↓eff_call, ↓eff_append, ↓eff_copy, ↓eff_clear, ↓eff_make, ↓reduceIte, ↓c_condI, ↓c_seqH, ↓c_blockH, ↓then_nH, ↓then_rH, ↓then_eH, ↓block_nH, ↓block_rH, ↓block_eH, go_sem]
      refine cutA 5 (by omega) f.body _ _ ?_
      have e : coSV (cutI 5 f.body) = .agg [i64 (fuI f).body.kind, i64 (fuI f).body.number, str (fuI f).body.text, cosSV (fuI f).body.kids, i64 0, .slice .imm 1 [], .slice .imm 6 [], .slice .imm 4 [], bdsSV (fuI f).body.binds] := coSV_eq (fuI f).body
      rw [e]
      refine ⟨⟨[], by simp⟩, ?_, .inl rfl⟩
      show Ids _ (.agg [i64 (fuI f).body.kind, i64 (fuI f).body.number, str (fuI f).body.text, cosSV (fuI f).body.kids, i64 0, .slice .imm 1 [], .slice .imm 6 [], .slice .imm 4 [], bdsSV (fuI f).body.binds])
      rw [← e]
      exact ids_co _ _
    rw [dk_eff]
    refine ⟨fuSV (fuI f), ?_, ?_⟩
    · simp -implicitDefEqProofs (maxSteps := 2000000) only [↓ops_nil, ↓ops_none, ↓ops_some, ↓kd_eff, ↓dr_nil, ↓dr_cons, ↓d1_none, ↓d1_some, ↓eff_store, ↓eff_box, ↓eff_alloc, ↓eff_build, ↓eff_buildSlice, ↓eff_call, ↓eff_append, ↓eff_copy, ↓eff_clear, ↓eff_make, ↓reduceIte, ↓c_condI, ↓c_seqH, ↓c_blockH, ↓then_nH, ↓then_rH, ↓then_eH, ↓block_nH, ↓block_rH, ↓block_eH, go_sem]
      exact ⟨⟨[], by simp⟩, ids_fu _ _, .inl rfl⟩
    rw [dk_eff]
    refine ⟨.slice .full 11 [fuSV (fuI f)], ?_, ?_⟩
    · simp -implicitDefEqProofs (maxSteps := 2000000) only [↓ops_nil, ↓ops_none, ↓ops_some, ↓kd_eff, ↓dr_nil, ↓dr_cons, ↓d1_none, ↓d1_some, ↓eff_store, ↓eff_box, ↓eff_alloc, ↓eff_build, ↓eff_buildSlice, ↓eff_call, ↓eff_append, ↓eff_copy, ↓eff_clear, ↓eff_make, ↓reduceIte, ↓c_condI, ↓c_seqH, ↓c_blockH, ↓then_nH, ↓then_rH, ↓then_eH, ↓block_nH, ↓block_rH, ↓block_eH, go_sem, fuSV, fuCells]
      exact ⟨⟨[], by simp⟩, ids_fus _ _, .inl rfl⟩
    simp -implicitDefEqProofs (maxSteps := 2000000) only [↓ops_nil, ↓ops_none, ↓ops_some, ↓kd_eff, ↓dr_nil, ↓dr_cons, ↓d1_none, ↓d1_some, ↓eff_store, ↓eff_box, ↓eff_alloc, ↓eff_build, ↓eff_buildSlice, ↓eff_call, ↓eff_append, ↓eff_copy, ↓eff_clear, ↓eff_make, ↓reduceIte, ↓c_condI, ↓c_seqH, ↓c_blockH, ↓then_nH, ↓then_rH, ↓then_eH, ↓block_nH, ↓block_rH, ↓block_eH, go_sem, drawW_n, drawW_0, drawW_1, drawW_2, drawW_3, pend_n, pend_c, headD_c, isStore_s, List.length_map, hlk, hw]
    refine ⟨_, _, ⟨happ, rfl, rfl, rfl⟩, b - 1, [.slice .imm 11 (l.map fiSV), i64 lets, .any, .any, .any, .slice (.own st.length (v + 1)) 11 (((l.take k).map fuI).map fuSV ++ [fuSV (fuI f)]), i64 ((k + 1 : Nat) : Int), .any, .any, .any, .any, .any, .any, .any, .any, .any, .any, .any, .any, .any, .any, .any, .any, .any, .any, .any, .any, .any, .any, .any, .any, .any, .any, .any, .any, .any, .any, .any, .any, .any, .any, .any, .any, .any, .any, .any, .any, .any, .any, .any, .any, .any, .any, .any, .any, .any, .any, .any, .any, .any, .any, .any, .any, .any, .any, .any, .any, .any, .any, .any, .any, .any, .any, .any, .any, .any, .any, .any, .any, .any, .any, .any], by omega, ?_, k + 1, v + 1, by omega, by omega, rfl, by rw [hsn2]⟩
    repeat (first | exact leEnv_nil | refine leEnv_any _ ?_ | refine leEnv_same _ ?_ | refine leEnv_norm _ ?_)
  have hlk : (l.take k).length = k := by simp; omega
  have hfit : ∀ f ∈ (l.take k).map fuI, fitC 7 f.body := fun f hf => by
    obtain ⟨x, _, rfl⟩ := List.mem_map.1 hf
    exact fit_cutI 5 x.body
  have hlF : ((l.take k).map fuI).length ≤ 1000 := by simp; omega
  have hgs : (st ++ [Ob.tok v])[gid]? = some (Ob.glob 0 (.int .i64 gm)) := get_app hg _
  obtain ⟨S, hS⟩ : ∃ S, st ++ [Ob.tok v] = S := ⟨_, rfl⟩
  have hSx : ∃ ex, S = st ++ ex := ⟨_, hS.symm⟩
  rw [hS] at hgs ⊢
  have key : ∀ c k' e, genF 7 ((l.take k).map fuI) lets = (c, k', e) → (e = 0 ∧ refF c = 0 ∧ c.funs.length = k) ∨ (c = default ∧ e = 16) ∨ (c = default ∧ e = 1 ∧ k' = 0) := fun c k' e hg => by
    have := gen_law 7 lets _ 0 [] [] [] c k' e hg
    simpa [Nat.min_eq_left hkl] using this
  have bk : ((k : Int) == (k : Int)) = true := by simp
  by_cases h1 : k < l.length
  have d1 : (k : Int) < (l.length : Int) := by omega
  have d2 : ¬ (k : Int) < 3 := by omega
  simp -implicitDefEqProofs (maxSteps := 2000000) only [↓ops_nil, ↓ops_none, ↓ops_some, ↓kd_eff, ↓dr_nil, ↓dr_cons, ↓d1_none, ↓d1_some, ↓eff_store, ↓eff_box, ↓eff_alloc, ↓eff_build, ↓eff_buildSlice, ↓eff_call, ↓eff_append, ↓eff_copy, ↓eff_clear, ↓eff_make, ↓reduceIte, ↓c_condI, ↓c_seqH, ↓c_blockH, ↓then_nH, ↓then_rH, ↓then_eH, ↓block_nH, ↓block_rH, ↓block_eH, go_sem, d1, d2, List.length_map]
  rotate_left
  have d1 : ¬ (k : Int) < (l.length : Int) := by omega
  simp -implicitDefEqProofs (maxSteps := 2000000) only [↓ops_nil, ↓ops_none, ↓ops_some, ↓kd_eff, ↓dr_nil, ↓dr_cons, ↓d1_none, ↓d1_some, ↓eff_store, ↓eff_box, ↓eff_alloc, ↓eff_build, ↓eff_buildSlice, ↓eff_call, ↓eff_append, ↓eff_copy, ↓eff_clear, ↓eff_make, ↓reduceIte, ↓c_condI, ↓c_seqH, ↓c_blockH, ↓then_nH, ↓then_rH, ↓then_eH, ↓block_nH, ↓block_rH, ↓block_eH, go_sem, d1, List.length_map]
  all_goals
    refine acalls_args (args' := [.slice .imm 11 (((l.take k).map fuI).map fuSV), .slice .full 0 [], i64 lets]) (.cons sle_own (.cons (SVle.refl _) (.cons (SVle.refl _) .nil))) ?_
    refine gen_c 7 (by omega) lets _ hlF hfit .imm _ _ hgs fun c k' e hgen z1 z2 z3 hz => ?_
    refine (key c k' e hgen).elim (fun hh => ?_) (fun hh => hh.elim (fun hh => ?_) (fun hh => ?_))
    · have b1 : (e != 0) = false := by simp [hh.1]
      have b2 : (refF c == 0) = true := by simp [hh.2.1]
      simp -implicitDefEqProofs (maxSteps := 2000000) only [↓ops_nil, ↓ops_none, ↓ops_some, ↓kd_eff, ↓dr_nil, ↓dr_cons, ↓d1_none, ↓d1_some, ↓eff_store, ↓eff_box, ↓eff_alloc, ↓eff_build, ↓eff_buildSlice, ↓eff_call, ↓eff_append, ↓eff_copy, ↓eff_clear, ↓eff_make, ↓reduceIte, ↓c_condI, ↓c_seqH, ↓c_blockH, ↓then_nH, ↓then_rH, ↓then_eH, ↓block_nH, ↓block_rH, ↓block_eH, go_sem, b1, cdCells]
      refine rcode_c c hz _ _ ?_
      simp -implicitDefEqProofs (maxSteps := 2000000) only [↓ops_nil, ↓ops_none, ↓ops_some, ↓kd_eff, ↓dr_nil, ↓dr_cons, ↓d1_none, ↓d1_some, ↓eff_store, ↓eff_box, ↓eff_alloc, ↓eff_build, ↓eff_buildSlice, ↓eff_call, ↓eff_append, ↓eff_copy, ↓eff_clear, ↓eff_make, ↓reduceIte, ↓c_condI, ↓c_seqH, ↓c_blockH, ↓then_nH, ↓then_rH, ↓then_eH, ↓block_nH, ↓block_rH, ↓block_eH, go_sem, b2, List.length_map, hlk, hh.2.2, bk]
      refine lives_c _ _ (get_app hgs _) ?_
      simp -implicitDefEqProofs (maxSteps := 2000000) only [↓ops_nil, ↓ops_none, ↓ops_some, ↓kd_eff, ↓dr_nil, ↓dr_cons, ↓d1_none, ↓d1_some, ↓eff_store, ↓eff_box, ↓eff_alloc, ↓eff_build, ↓eff_buildSlice, ↓eff_call, ↓eff_append, ↓eff_copy, ↓eff_clear, ↓eff_make, ↓reduceIte, ↓c_condI, ↓c_seqH, ↓c_blockH, ↓then_nH, ↓then_rH, ↓then_eH, ↓block_nH, ↓block_rH, ↓block_eH, go_sem]
      exact fin _ (ex_app2 hSx _)
    · obtain ⟨rfl, rfl⟩ := hh
      have hcd : cdCells .imm .imm .imm z1 z2 z3 default = [.slice .imm z1 [], .slice .imm z2 [], .slice .imm z3 [], i64 0] := rfl
      have b3 : (((0 : Nat) : Int) == 0) = true := rfl
      rw [hcd]
      simp -implicitDefEqProofs (maxSteps := 2000000) only [↓ops_nil, ↓ops_none, ↓ops_some, ↓kd_eff, ↓dr_nil, ↓dr_cons, ↓d1_none, ↓d1_some, ↓eff_store, ↓eff_box, ↓eff_alloc, ↓eff_build, ↓eff_buildSlice, ↓eff_call, ↓eff_append, ↓eff_copy, ↓eff_clear, ↓eff_make, ↓reduceIte, ↓c_condI, ↓c_seqH, ↓c_blockH, ↓then_nH, ↓then_rH, ↓then_eH, ↓block_nH, ↓block_rH, ↓block_eH, go_sem, b3, Int.reduceBEq, Int.reduceBNe]
      refine lives_c _ _ (get_app hgs _) ?_
      simp -implicitDefEqProofs (maxSteps := 2000000) only [↓ops_nil, ↓ops_none, ↓ops_some, ↓kd_eff, ↓dr_nil, ↓dr_cons, ↓d1_none, ↓d1_some, ↓eff_store, ↓eff_box, ↓eff_alloc, ↓eff_build, ↓eff_buildSlice, ↓eff_call, ↓eff_append, ↓eff_copy, ↓eff_clear, ↓eff_make, ↓reduceIte, ↓c_condI, ↓c_seqH, ↓c_blockH, ↓then_nH, ↓then_rH, ↓then_eH, ↓block_nH, ↓block_rH, ↓block_eH, go_sem]
      exact fin _ (ex_app2 hSx _)
    · obtain ⟨rfl, rfl, rfl⟩ := hh
      have hcd : cdCells .imm .imm .imm z1 z2 z3 default = [.slice .imm z1 [], .slice .imm z2 [], .slice .imm z3 [], i64 0] := rfl
      have b3 : (((0 : Nat) : Int) == 0) = true := rfl
      rw [hcd]
      simp -implicitDefEqProofs (maxSteps := 2000000) only [↓ops_nil, ↓ops_none, ↓ops_some, ↓kd_eff, ↓dr_nil, ↓dr_cons, ↓d1_none, ↓d1_some, ↓eff_store, ↓eff_box, ↓eff_alloc, ↓eff_build, ↓eff_buildSlice, ↓eff_call, ↓eff_append, ↓eff_copy, ↓eff_clear, ↓eff_make, ↓reduceIte, ↓c_condI, ↓c_seqH, ↓c_blockH, ↓then_nH, ↓then_rH, ↓then_eH, ↓block_nH, ↓block_rH, ↓block_eH, go_sem, b3, Int.reduceBEq, Int.reduceBNe]
      refine lives_c _ _ (get_app hgs _) ?_
      simp -implicitDefEqProofs (maxSteps := 2000000) only [↓ops_nil, ↓ops_none, ↓ops_some, ↓kd_eff, ↓dr_nil, ↓dr_cons, ↓d1_none, ↓d1_some, ↓eff_store, ↓eff_box, ↓eff_alloc, ↓eff_build, ↓eff_buildSlice, ↓eff_call, ↓eff_append, ↓eff_copy, ↓eff_clear, ↓eff_make, ↓reduceIte, ↓c_condI, ↓c_seqH, ↓c_blockH, ↓then_nH, ↓then_rH, ↓then_eH, ↓block_nH, ↓block_rH, ↓block_eH, go_sem]
      exact fin _ (ex_app2 hSx _)
end Go.Proofs
