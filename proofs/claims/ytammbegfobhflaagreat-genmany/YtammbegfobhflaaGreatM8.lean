/- lives. -/
import Derived.Test.YtammbegfobhflaaGreatN5
import Derived.Test.YtammbegfobhflaaGreatM1
import Derived.Test.YtammbegfobhflaaGreatA9
import Derived.Test.YtammbegfobhflaaGreatRows
import Derived.ProofKit
import Derived.LaidMore
import Derived.Lay
import Derived.OpenShut
import Derived.Stop.Joined
import Derived.Shelf.Vars
import Derived.ChangeMaps5
set_option linter.all false
set_option linter.unusedSimpArgs false
set_option linter.unusedVariables false
set_option maxRecDepth 8000
namespace Go.AL
theorem SVle.elemsG {m : Mode} {z : Nat} {xs ys : List SV} (hl : xs.length = ys.length) (h : ∀ i, i < xs.length → (xs.getD i .any).cells.length = (ys.getD i .any).cells.length ∧ ∀ j, SVle ((xs.getD i .any).cells.getD j .any) ((ys.getD i .any).cells.getD j .any)) : SVle (.slice m z xs) (.slice .imm z ys) := by
  intro st σ w v hv
  have hv : Rep st σ w (.slice .imm z xs) v := hv.norm
  generalize hx : SV.slice .imm z xs = x at hv
  cases hv with
  | nil m z hm => cases hx; rw [List.eq_nil_of_length_eq_zero hl.symm]; exact .nil _ _ trivial
  | slice m z l a cap vals hcap hsp hzz hc hr hm =>
    cases hx
    rw [hl]
    refine .slice .imm z ys a cap vals (by omega) (fun e => hsp (fun e2 => e (by rw [e2] at hl; exact List.eq_nil_of_length_eq_zero hl.symm))) (fun i hi => ?_) (fun i j hi hj => hc i j (by omega) hj) (fun i j hi hj => ?_) trivial
    · rw [← (h i (by omega)).1]; exact hzz i (by omega)
    · exact (h i (by omega)).2 j _ _ _ _ (hr i j (by omega) hj)
  | _ => cases hx
end Go.AL
namespace Go.Proofs
open Go Go.AL
theorem live_x : SVle (.slice .imm 9 [.agg [i64 1, i64 1, str ⟨#[]⟩, .slice .imm 0 [], i64 0, .slice .imm 0 [], .slice .imm 0 [], .slice .imm 0 [], .slice .imm 0 []], .agg [i64 1, i64 1, str ⟨#[]⟩, .slice .imm 0 [], i64 0, .slice .imm 0 [], .slice .imm 0 [], .slice .imm 0 [], .slice .imm 0 []]]) (cosSV [liveX, liveX]) := by
  have hs : SVles [i64 1, i64 1, str ⟨#[]⟩, .slice .imm 0 [], i64 0, .slice .imm 0 [], .slice .imm 0 [], .slice .imm 0 [], .slice .imm 0 []] [i64 1, i64 1, str ⟨#[]⟩, .slice .imm 9 [], i64 0, .slice .imm 1 [], .slice .imm 6 [], .slice .imm 4 [], .slice .imm 1 []] :=
    .cons (SVle.refl _) (.cons (SVle.refl _) (.cons (SVle.refl _) (.cons (SVle.nil _ _ _ (.inr rfl)) (.cons (SVle.refl _) (.cons (SVle.nil _ _ _ (.inr rfl)) (.cons (SVle.nil _ _ _ (.inr rfl)) (.cons (SVle.nil _ _ _ (.inr rfl)) (.cons (SVle.nil _ _ _ (.inr rfl)) .nil))))))))
  have hx : coSV liveX = .agg [i64 1, i64 1, str ⟨#[]⟩, .slice .imm 9 [], i64 0, .slice .imm 1 [], .slice .imm 6 [], .slice .imm 4 [], .slice .imm 1 []] := rfl
  unfold cosSV
  rw [List.map_cons, List.map_cons, List.map_nil, hx]
  refine SVle.elemsG rfl fun i hi => ?_
  match i, hi with
  | 0, _ => exact ⟨rfl, fun j => hs.at j⟩
  | 1, _ => exact ⟨rfl, fun j => hs.at j⟩
theorem live_arg : SVle (.slice .full 11 [.agg [i64 0, i64 0, i64 14, i64 0, str ⟨#[43]⟩, .slice .imm 9 [.agg [i64 1, i64 1, str ⟨#[]⟩, .slice .imm 0 [], i64 0, .slice .imm 0 [], .slice .imm 0 [], .slice .imm 0 [], .slice .imm 0 []], .agg [i64 1, i64 1, str ⟨#[]⟩, .slice .imm 0 [], i64 0, .slice .imm 0 [], .slice .imm 0 [], .slice .imm 0 [], .slice .imm 0 []]], i64 0, .slice .imm 0 [], .slice .imm 0 [], .slice .imm 0 [], .slice .imm 0 []]]) (.slice .imm 11 ([liveF].map fuSV)) := by
  have hs : SVles [i64 0, i64 0, i64 14, i64 0, str ⟨#[43]⟩, .slice .imm 9 [.agg [i64 1, i64 1, str ⟨#[]⟩, .slice .imm 0 [], i64 0, .slice .imm 0 [], .slice .imm 0 [], .slice .imm 0 [], .slice .imm 0 []], .agg [i64 1, i64 1, str ⟨#[]⟩, .slice .imm 0 [], i64 0, .slice .imm 0 [], .slice .imm 0 [], .slice .imm 0 [], .slice .imm 0 []]], i64 0, .slice .imm 0 [], .slice .imm 0 [], .slice .imm 0 [], .slice .imm 0 []] (fuCells liveF) :=
    .cons (SVle.refl _) (.cons (SVle.refl _) (.cons (SVle.refl _) (.cons (SVle.refl _) (.cons (SVle.refl _) (.cons live_x (.cons (SVle.refl _) (.cons (SVle.nil _ _ _ (.inr rfl)) (.cons (SVle.nil _ _ _ (.inr rfl)) (.cons (SVle.nil _ _ _ (.inr rfl)) (.cons (SVle.nil _ _ _ (.inr rfl)) .nil))))))))))
  refine SVle.elemsG rfl fun i hi => ?_
  match i, hi with
  | 0, _ => exact ⟨rfl, fun j => hs.at j⟩
set_option maxHeartbeats 4000000 in
theorem lives_c {gid : Nat} {gm : Int} (K : SV → St → Prop) (st : St) (hg : st[gid]? = some (Ob.glob 0 (.int .i64 gm))) (h : K (.sc (.bool true)) st) : ACalls Tryz.prog 7 [] K st := by
  refine acalls_go_pure [] Tryz.func7 rfl Tryz.results7 Tryz.ntmps7 ?_
  simp -implicitDefEqProofs (maxSteps := 2000000) only [↓ops_nil, ↓ops_none, ↓ops_some, ↓kd_eff, ↓dr_nil, ↓dr_cons, ↓d1_none, ↓d1_some, ↓eff_store, ↓eff_box, ↓eff_alloc, ↓eff_build, ↓eff_buildSlice, ↓eff_call, ↓eff_append, ↓eff_copy, ↓eff_clear, ↓eff_make, ↓reduceIte, ↓c_condI, ↓c_seqH, ↓c_blockH, ↓then_nH, ↓then_rH, ↓then_eH, ↓block_nH, ↓block_rH, ↓block_eH, go_sem]
  refine acalls_args (args' := [.slice .imm 11 ([liveF].map fuSV), .slice .full 0 [], i64 0]) (.cons live_arg (.cons (SVle.refl _) (.cons (SVle.refl _) .nil))) ?_
  refine gen_c 3 (by omega) 0 [liveF] (by simp) ?_ .imm _ _ (get_app hg _) fun c k e hgen z1 z2 z3 hz => ?_
  · intro f hf
    simp only [List.mem_singleton] at hf
    subst hf
    refine ⟨⟨by simp [liveF, Co.kids], by simp [liveF, Co.binds], fun l hl => by cases hl⟩, fun k hk => ?_, fun _ => Nat.succ_pos _⟩
    have hk : k ∈ [liveX, liveX] := hk
    simp only [List.mem_cons, List.not_mem_nil, or_false, or_self] at hk
    subst hk
    exact ⟨⟨by simp [liveX, Co.kids], by simp [liveX, Co.binds], fun l hl => by cases hl⟩, fun k hk => (by cases hk), fun _ => Nat.succ_pos _⟩
  rw [live_gen] at hgen
  cases hgen
  obtain rfl := hz.f (by simp [liveC])
  obtain rfl := hz.i (by simp [liveC])
  clear hz
  have b1 : (((1 : Nat) : Int) != 1) = false := rfl
  have b2 : (((4 : Nat) : Int) != 4) = false := rfl
  have b3 : (((1 : Nat) : Int) == 1) = true := rfl
  have hcd : cdCells .imm .imm .imm 4 1 z3 liveC = [.slice .imm 4 [bdSV ⟨0, 0, 2, [⟨1, 0, 0⟩, ⟨1, 0, 0⟩, ⟨19, 0, 0⟩, ⟨15, 0, 0⟩]⟩], .slice .imm 1 [i64 1], .slice .imm z3 [], i64 0] := rfl
  rw [hcd]
  have t2 : Int.toNat 2 = 2 := rfl
  have t3 : Int.toNat 3 = 3 := rfl
  have n1 : ((0 : Int) < ((1 : Nat) : Int)) = True := eq_true (by decide)
  have n2 : ((2 : Int) < ((4 : Nat) : Int)) = True := eq_true (by decide)
  have n3 : ((3 : Int) < ((4 : Nat) : Int)) = True := eq_true (by decide)
  simp -implicitDefEqProofs (maxSteps := 2000000) only [↓ops_nil, ↓ops_none, ↓ops_some, ↓kd_eff, ↓dr_nil, ↓dr_cons, ↓d1_none, ↓d1_some, ↓eff_store, ↓eff_box, ↓eff_alloc, ↓eff_build, ↓eff_buildSlice, ↓eff_call, ↓eff_append, ↓eff_copy, ↓eff_clear, ↓eff_make, ↓reduceIte, ↓c_condI, ↓c_seqH, ↓c_blockH, ↓then_nH, ↓then_rH, ↓then_eH, ↓block_nH, ↓block_rH, ↓block_eH, go_sem, t2, t3, n1, n2, n3, bdSV, insSV, inSV, inCells, List.map_cons, List.map_nil, b1, b2, b3, Int.reduceBEq, Int.reduceBNe]
  exact ⟨⟨_, rfl⟩, .sc _, h⟩
end Go.Proofs
set_option linter.unusedSimpArgs false
set_option linter.unusedVariables false
set_option maxRecDepth 8000
namespace Go.AL
theorem use_cut {Z G : Prop} (hz : Z) (h : Z → G) : G := h hz
theorem fit_leaf (d : Nat) (m : Int) : fitC (d + 2) (leafC m) := ⟨⟨by simp [leafC, Co.kids], by simp [leafC, Co.binds], fun l hl => by cases hl⟩, fun k hk => (by cases hk), fun _ => Nat.succ_pos _⟩
theorem fit_many (q : Nat) : ∀ n, fitC (n + 2) (manyC q n)
  | 0 => fit_leaf 0 0
  | n + 1 => by
    have hk : ∀ k ∈ [leafC ((n + 1 : Int) * (q / 2 : Nat)), manyC q n], fitC (n + 2) k := by
      intro k hk
      simp only [List.mem_cons, List.not_mem_nil, or_false] at hk
      rcases hk with rfl | rfl
      · exact fit_leaf n _
      · exact fit_many q n
    rw [manyC_succ]
    split
    · exact ⟨⟨by simp [Co.kids], by simp [Co.binds], fun l hl => by cases hl⟩, hk, fun _ => Nat.succ_pos _⟩
    · exact ⟨⟨by simp [Co.kids], by simp [Co.binds], fun l hl => by cases hl⟩, hk, fun _ => Nat.succ_pos _⟩
end Go.AL
namespace Go.Proofs
open Go Go.AL
theorem le_nil9 : SVle (norm1 (.slice .full 0 [])) (cosSV []) := SVle.nil _ _ _ (.inr rfl)
theorem le_leaf (v : Int) : SVles [i64 1, i64 v, str ⟨#[]⟩, .slice .imm 0 [], i64 0, .slice .imm 0 [], .slice .imm 0 [], .slice .imm 0 [], .slice .imm 0 []] (coSV (leafC v)).cells :=
  .cons (SVle.refl _) (.cons (SVle.refl _) (.cons (SVle.refl _) (.cons (SVle.nil _ _ _ (.inr rfl)) (.cons (SVle.refl _) (.cons (SVle.nil _ _ _ (.inr rfl)) (.cons (SVle.nil _ _ _ (.inr rfl)) (.cons (SVle.nil _ _ _ (.inr rfl)) (.cons (SVle.nil _ _ _ (.inr rfl)) .nil))))))))
theorem le_core {c : Co} {X : SV} (hX : SVle (norm1 X) (cosSV c.kids)) (hb : c.binds = []) : SVles [i64 c.kind, i64 c.number, str c.text, norm1 X, i64 0, .slice .imm 0 [], .slice .imm 0 [], .slice .imm 0 [], .slice .imm 0 []] (coSV c).cells := by
  rw [coSV_eq, hb]
  exact .cons (SVle.refl _) (.cons (SVle.refl _) (.cons (SVle.refl _) (.cons hX (.cons (SVle.refl _) (.cons (SVle.nil _ _ _ (.inr rfl)) (.cons (SVle.nil _ _ _ (.inr rfl)) (.cons (SVle.nil _ _ _ (.inr rfl)) (.cons (SVle.nil _ _ _ (.inr rfl)) .nil))))))))
theorem binds_many (q : Nat) : ∀ n, (manyC q n).binds = []
  | 0 => rfl
  | n + 1 => by rw [manyC_succ]; split <;> rfl
theorem le_two (v : Int) {c : Co} {X : SV} (hX : SVle (norm1 X) (cosSV c.kids)) (hb : c.binds = []) : SVle (.slice .imm 9 [.agg [i64 1, i64 v, str ⟨#[]⟩, .slice .imm 0 [], i64 0, .slice .imm 0 [], .slice .imm 0 [], .slice .imm 0 [], .slice .imm 0 []], .agg [i64 c.kind, i64 c.number, str c.text, norm1 X, i64 0, .slice .imm 0 [], .slice .imm 0 [], .slice .imm 0 [], .slice .imm 0 []]]) (cosSV [leafC v, c]) := by
  have h1 := le_leaf v
  have h2 := le_core hX hb
  refine SVle.elemsG rfl fun i hi => ?_
  match i, hi with
  | 0, _ => exact ⟨rfl, fun j => h1.at j⟩
  | 1, _ => exact ⟨by show _ = (coSV c).cells.length; rw [coSV_eq]; rfl, fun j => h2.at j⟩
theorem le_fu {c : Co} {X : SV} (hX : SVle (norm1 X) (cosSV c.kids)) (hb : c.binds = []) : SVle (.slice .full 11 [.agg (i64 0 :: i64 0 :: [i64 c.kind, i64 c.number, str c.text, norm1 X, i64 0, .slice .imm 0 [], .slice .imm 0 [], .slice .imm 0 [], .slice .imm 0 []])]) (.slice .imm 11 [fuSV ⟨0, 0, c⟩]) := by
  have hs : SVles (i64 0 :: i64 0 :: [i64 c.kind, i64 c.number, str c.text, norm1 X, i64 0, .slice .imm 0 [], .slice .imm 0 [], .slice .imm 0 [], .slice .imm 0 []]) (fuCells ⟨0, 0, c⟩) := .cons (SVle.refl _) (.cons (SVle.refl _) (by
    have := le_core hX hb
    rw [coSV_eq] at this
    exact this))
  refine SVle.elemsG rfl fun i hi => ?_
  match i, hi with
  | 0, _ => exact ⟨rfl, fun j => hs.at j⟩
theorem ref_len {D : Nat} {b : Co} {X : List In} {G : GR} (hX : expR D b 0 true ⟨[], [], false⟩ = (X, G)) (htx : G.texts = []) (h1 : X.length ≤ 5000) (h2 : G.ints.length ≤ 10000) {c : Cd} {k e : Int} (h : refG D b = (c, k, e)) :
    c.funs.length ≤ 1000000 ∧ c.ints.length ≤ 1000000 ∧ c.texts.length ≤ 1000000 ∧ ∀ f ∈ c.funs, f.code.length ≤ 1000000 := by
  have hd : (default : Cd).funs.length ≤ 1000000 ∧ (default : Cd).ints.length ≤ 1000000 ∧ (default : Cd).texts.length ≤ 1000000 ∧ ∀ f ∈ (default : Cd).funs, f.code.length ≤ 1000000 :=
    ⟨Nat.zero_le _, Nat.zero_le _, Nat.zero_le _, fun f hf => by cases hf⟩
  unfold refG at h
  rw [hX] at h
  simp only at h
  split at h
  · cases h; exact hd
  · split at h
    · cases h
      refine ⟨by simp, by simp only; omega, by simp [htx], fun f hf => ?_⟩
      simp only [List.mem_singleton] at hf
      subst hf
      simp only
      omega
    · cases h; exact hd
set_option maxHeartbeats 8000000 in
theorem law_c (a0 a1 : Int) (r0 : -9223372036854775808 ≤ a0 ∧ a0 ≤ 9223372036854775807) (r1 : -9223372036854775808 ≤ a1 ∧ a1 ≤ 9223372036854775807) {gid : Nat} {gm : Int} (K : SV → St → Prop) (st : St) (hg : st[gid]? = some (Ob.glob 0 (.int .i64 gm))) (h : K (.sc (.bool true)) st) : ACalls Tryz.prog 3 [i64 a0, i64 a1] K st := by
  have fin : ∀ s, (∃ ex, s = st ++ ex) → FinK st K (.sc (.bool true)) s := fun s hex => ⟨hex, .sc _, h⟩
  refine acalls_go_pure [] Tryz.func3 rfl Tryz.results3 Tryz.ntmps3 ?_
  obtain ⟨n0, hn0⟩ : ∃ n0 : Nat, (if a0 < 0 then -(a0 + 1) else a0) = n0 := ⟨(if a0 < 0 then -(a0 + 1) else a0).toNat, by split <;> omega⟩
  obtain ⟨k0, hk0⟩ : ∃ k0 : Nat, (if a1 < 0 then -(a1 + 1) else a1) = k0 := ⟨(if a1 < 0 then -(a1 + 1) else a1).toNat, by split <;> omega⟩
  obtain ⟨n, hn⟩ : ∃ n : Nat, n0 % 251 = n := ⟨_, rfl⟩
  have hn250 : n ≤ 250 := by omega
  have hrem : Int.tmod (n0 : Int) 251 = (n : Int) := by rw [← hn]; rfl
  have hwr : IntKind.i64.wrap (n : Int) = (n : Int) := IntWalk.i64_in _ (by omega)
  apply use_cut
  case h =>
    by_cases h0 : a0 < 0
    · rw [if_pos h0] at hn0
      have w1 : IntKind.i64.wrap (a0 + 1) = a0 + 1 := IntWalk.i64_in _ (by omega)
      have w2 : IntKind.i64.wrap (0 - (a0 + 1)) = n0 := by rw [IntWalk.i64_in _ (by omega)]; omega
      by_cases h1 : a1 < 0
      · rw [if_pos h1] at hk0
        have w3 : IntKind.i64.wrap (a1 + 1) = a1 + 1 := IntWalk.i64_in _ (by omega)
        have w4 : IntKind.i64.wrap (0 - (a1 + 1)) = k0 := by rw [IntWalk.i64_in _ (by omega)]; omega
        intro g
        simp -implicitDefEqProofs (maxSteps := 2000000) only [↓ops_nil, ↓ops_none, ↓ops_some, ↓kd_eff, ↓dr_nil, ↓dr_cons, ↓d1_none, ↓d1_some, ↓eff_store, ↓eff_box, ↓eff_alloc, ↓eff_build, ↓eff_buildSlice, ↓eff_call, ↓eff_append, ↓eff_copy, ↓eff_clear, ↓eff_make, ↓reduceIte, ↓c_condI, ↓c_seqH, ↓c_blockH, ↓then_nH, ↓then_rH, ↓then_eH, ↓block_nH, ↓block_rH, ↓block_eH, go_sem, h0, h1, w1, w2, w3, w4, hrem, hwr]
        refine awp_weaken (b := [i64 n, i64 k0, .any, .any, .sc (.bool false), .ptr st.length 0, i64 0, .any, .any, .any, .any, .any, .any, .any, .any, .any, .any, .any, .any, .any, .any, .any, .any, .any, .any, .any, .any, .any, .any, .any, .any, .any, .any, .any, .any, .any, .any, .any, .any, .any, .any, .any, .any, .any, .any, .any, .any, .any, .any, .any, .any, .any, .any, .any, .any, .any, .any, .any, .any, .any, .any, .any, .any, .any, .any, .any, .any, .any, .any, .any, .any, .any, .any, .any, .any, .any, .any, .any, .any, .any, .any, .any, .any, .any, .any, .any, .any, .any]) ?_ g
        repeat (first | exact leEnv_nil | refine leEnv_any _ ?_ | refine leEnv_same _ ?_ | refine leEnv_norm _ ?_)
      · rw [if_neg h1] at hk0
        intro g
        simp -implicitDefEqProofs (maxSteps := 2000000) only [↓ops_nil, ↓ops_none, ↓ops_some, ↓kd_eff, ↓dr_nil, ↓dr_cons, ↓d1_none, ↓d1_some, ↓eff_store, ↓eff_box, ↓eff_alloc, ↓eff_build, ↓eff_buildSlice, ↓eff_call, ↓eff_append, ↓eff_copy, ↓eff_clear, ↓eff_make, ↓reduceIte, ↓c_condI, ↓c_seqH, ↓c_blockH, ↓then_nH, ↓then_rH, ↓then_eH, ↓block_nH, ↓block_rH, ↓block_eH, go_sem, h0, h1, w1, w2, hk0, hrem, hwr]
        refine awp_weaken (b := [i64 n, i64 k0, .any, .any, .sc (.bool false), .ptr st.length 0, i64 0, .any, .any, .any, .any, .any, .any, .any, .any, .any, .any, .any, .any, .any, .any, .any, .any, .any, .any, .any, .any, .any, .any, .any, .any, .any, .any, .any, .any, .any, .any, .any, .any, .any, .any, .any, .any, .any, .any, .any, .any, .any, .any, .any, .any, .any, .any, .any, .any, .any, .any, .any, .any, .any, .any, .any, .any, .any, .any, .any, .any, .any, .any, .any, .any, .any, .any, .any, .any, .any, .any, .any, .any, .any, .any, .any, .any, .any, .any, .any, .any, .any]) ?_ g
        repeat (first | exact leEnv_nil | refine leEnv_any _ ?_ | refine leEnv_same _ ?_ | refine leEnv_norm _ ?_)
    · rw [if_neg h0] at hn0
      by_cases h1 : a1 < 0
      · rw [if_pos h1] at hk0
        have w3 : IntKind.i64.wrap (a1 + 1) = a1 + 1 := IntWalk.i64_in _ (by omega)
        have w4 : IntKind.i64.wrap (0 - (a1 + 1)) = k0 := by rw [IntWalk.i64_in _ (by omega)]; omega
        intro g
        simp -implicitDefEqProofs (maxSteps := 2000000) only [↓ops_nil, ↓ops_none, ↓ops_some, ↓kd_eff, ↓dr_nil, ↓dr_cons, ↓d1_none, ↓d1_some, ↓eff_store, ↓eff_box, ↓eff_alloc, ↓eff_build, ↓eff_buildSlice, ↓eff_call, ↓eff_append, ↓eff_copy, ↓eff_clear, ↓eff_make, ↓reduceIte, ↓c_condI, ↓c_seqH, ↓c_blockH, ↓then_nH, ↓then_rH, ↓then_eH, ↓block_nH, ↓block_rH, ↓block_eH, go_sem, h0, h1, w3, w4, hn0, hrem, hwr]
        refine awp_weaken (b := [i64 n, i64 k0, .any, .any, .sc (.bool false), .ptr st.length 0, i64 0, .any, .any, .any, .any, .any, .any, .any, .any, .any, .any, .any, .any, .any, .any, .any, .any, .any, .any, .any, .any, .any, .any, .any, .any, .any, .any, .any, .any, .any, .any, .any, .any, .any, .any, .any, .any, .any, .any, .any, .any, .any, .any, .any, .any, .any, .any, .any, .any, .any, .any, .any, .any, .any, .any, .any, .any, .any, .any, .any, .any, .any, .any, .any, .any, .any, .any, .any, .any, .any, .any, .any, .any, .any, .any, .any, .any, .any, .any, .any, .any, .any]) ?_ g
        repeat (first | exact leEnv_nil | refine leEnv_any _ ?_ | refine leEnv_same _ ?_ | refine leEnv_norm _ ?_)
      · rw [if_neg h1] at hk0
        intro g
        simp -implicitDefEqProofs (maxSteps := 2000000) only [↓ops_nil, ↓ops_none, ↓ops_some, ↓kd_eff, ↓dr_nil, ↓dr_cons, ↓d1_none, ↓d1_some, ↓eff_store, ↓eff_box, ↓eff_alloc, ↓eff_build, ↓eff_buildSlice, ↓eff_call, ↓eff_append, ↓eff_copy, ↓eff_clear, ↓eff_make, ↓reduceIte, ↓c_condI, ↓c_seqH, ↓c_blockH, ↓then_nH, ↓then_rH, ↓then_eH, ↓block_nH, ↓block_rH, ↓block_eH, go_sem, h0, h1, hn0, hk0, hrem, hwr]
        refine awp_weaken (b := [i64 n, i64 k0, .any, .any, .sc (.bool false), .ptr st.length 0, i64 0, .any, .any, .any, .any, .any, .any, .any, .any, .any, .any, .any, .any, .any, .any, .any, .any, .any, .any, .any, .any, .any, .any, .any, .any, .any, .any, .any, .any, .any, .any, .any, .any, .any, .any, .any, .any, .any, .any, .any, .any, .any, .any, .any, .any, .any, .any, .any, .any, .any, .any, .any, .any, .any, .any, .any, .any, .any, .any, .any, .any, .any, .any, .any, .any, .any, .any, .any, .any, .any, .any, .any, .any, .any, .any, .any, .any, .any, .any, .any, .any, .any]) ?_ g
        repeat (first | exact leEnv_nil | refine leEnv_any _ ?_ | refine leEnv_same _ ?_ | refine leEnv_norm _ ?_)
  case hz =>
    refine awp_rounds [] (fun b e s => ∃ m X ex, m + b = n ∧ s = st ++ (Ob.cells [i64 (manyC (k0 % 3) m).kind, i64 (manyC (k0 % 3) m).number, str (manyC (k0 % 3) m).text, X, i64 0, .slice .full 0 [], .slice .full 0 [], .slice .full 0 [], .slice .full 0 []] :: ex) ∧ SVle (norm1 X) (cosSV (manyC (k0 % 3) m).kids) ∧ e = [i64 n, i64 k0, .any, .any, .sc (.bool false), .ptr st.length 0, i64 m, .any, .any, .any, .any, .any, .any, .any, .any, .any, .any, .any, .any, .any, .any, .any, .any, .any, .any, .any, .any, .any, .any, .any, .any, .any, .any, .any, .any, .any, .any, .any, .any, .any, .any, .any, .any, .any, .any, .any, .any, .any, .any, .any, .any, .any, .any, .any, .any, .any, .any, .any, .any, .any, .any, .any, .any, .any, .any, .any, .any, .any, .any, .any, .any, .any, .any, .any, .any, .any, .any, .any, .any, .any, .any, .any, .any, .any, .any, .any, .any, .any]) (n := n) ?_ ⟨0, .slice .full 0 [], [], by omega, rfl, le_nil9, rfl⟩ ?_
    · repeat (first | exact leEnv_nil | refine leEnv_any _ ?_ | refine leEnv_same _ ?_ | refine leEnv_norm _ ?_)
    rintro b e s ⟨m, X, ex, hm, rfl, hX, rfl⟩
    by_cases hlt : m < n
    · have c1 : (m : Int) < (n : Int) := by omega
      have hw : IntKind.i64.wrap ((m : Int) + 1) = ((m + 1 : Nat) : Int) := by rw [IntWalk.i64_in _ (by omega)]; rfl
      rcases show k0 % 3 = 0 ∨ k0 % 3 = 1 ∨ k0 % 3 = 2 by omega with hq | hq | hq
      · rw [hq] at hX ⊢
        have hr : Int.tmod (k0 : Int) 3 = 0 := (show Int.tmod (k0 : Int) 3 = ((k0 % 3 : Nat) : Int) from rfl).trans (by rw [hq]; rfl)
        obtain ⟨v, hv⟩ : ∃ v : Int, (m + 1 : Int) * ((0 / 2 : Nat) : Int) = v := ⟨_, rfl⟩
        have hv2 : IntKind.i64.wrap (((m + 1 : Nat) : Int) * IntKind.i64.wrap (Int.tdiv 0 2)) = v := by
          rw [← hv]
          show IntKind.i64.wrap (((m + 1 : Nat) : Int) * 0) = (m + 1 : Int) * 0
          rw [IntWalk.i64_in _ (by omega)]; omega
        simp -implicitDefEqProofs (maxSteps := 2000000) only [↓ops_nil, ↓ops_none, ↓ops_some, ↓kd_eff, ↓dr_nil, ↓dr_cons, ↓d1_none, ↓d1_some, ↓eff_store, ↓eff_box, ↓eff_alloc, ↓eff_build, ↓eff_buildSlice, ↓eff_call, ↓eff_append, ↓eff_copy, ↓eff_clear, ↓eff_make, ↓reduceIte, ↓c_condI, ↓c_seqH, ↓c_blockH, ↓then_nH, ↓then_rH, ↓then_eH, ↓block_nH, ↓block_rH, ↓block_eH, go_sem, c1, hw, hr, hv2, Int.reduceBEq]
        refine ⟨b - 1, [i64 n, i64 k0, .any, .any, .sc (.bool false), .ptr st.length 0, i64 ((m + 1 : Nat) : Int), .any, .any, .any, .any, .any, .any, .any, .any, .any, .any, .any, .any, .any, .any, .any, .any, .any, .any, .any, .any, .any, .any, .any, .any, .any, .any, .any, .any, .any, .any, .any, .any, .any, .any, .any, .any, .any, .any, .any, .any, .any, .any, .any, .any, .any, .any, .any, .any, .any, .any, .any, .any, .any, .any, .any, .any, .any, .any, .any, .any, .any, .any, .any, .any, .any, .any, .any, .any, .any, .any, .any, .any, .any, .any, .any, .any, .any, .any, .any, .any, .any], by omega, ?_, m + 1, _, _, by omega, rfl, ?_, rfl⟩
        · repeat (first | exact leEnv_nil | refine leEnv_any _ ?_ | refine leEnv_same _ ?_ | refine leEnv_norm _ ?_)
        · have := le_two v hX (binds_many 0 m)
          rw [← hv] at this ⊢
          exact this
      · rw [hq] at hX ⊢
        have hr : Int.tmod (k0 : Int) 3 = 1 := (show Int.tmod (k0 : Int) 3 = ((k0 % 3 : Nat) : Int) from rfl).trans (by rw [hq]; rfl)
        obtain ⟨v, hv⟩ : ∃ v : Int, (m + 1 : Int) * ((1 / 2 : Nat) : Int) = v := ⟨_, rfl⟩
        have hv2 : IntKind.i64.wrap (((m + 1 : Nat) : Int) * IntKind.i64.wrap (Int.tdiv 1 2)) = v := by
          rw [← hv]
          show IntKind.i64.wrap (((m + 1 : Nat) : Int) * 0) = (m + 1 : Int) * 0
          rw [IntWalk.i64_in _ (by omega)]; omega
        simp -implicitDefEqProofs (maxSteps := 2000000) only [↓ops_nil, ↓ops_none, ↓ops_some, ↓kd_eff, ↓dr_nil, ↓dr_cons, ↓d1_none, ↓d1_some, ↓eff_store, ↓eff_box, ↓eff_alloc, ↓eff_build, ↓eff_buildSlice, ↓eff_call, ↓eff_append, ↓eff_copy, ↓eff_clear, ↓eff_make, ↓reduceIte, ↓c_condI, ↓c_seqH, ↓c_blockH, ↓then_nH, ↓then_rH, ↓then_eH, ↓block_nH, ↓block_rH, ↓block_eH, go_sem, c1, hw, hr, hv2, Int.reduceBEq]
        refine ⟨b - 1, [i64 n, i64 k0, .any, .any, .sc (.bool false), .ptr st.length 0, i64 ((m + 1 : Nat) : Int), .any, .any, .any, .any, .any, .any, .any, .any, .any, .any, .any, .any, .any, .any, .any, .any, .any, .any, .any, .any, .any, .any, .any, .any, .any, .any, .any, .any, .any, .any, .any, .any, .any, .any, .any, .any, .any, .any, .any, .any, .any, .any, .any, .any, .any, .any, .any, .any, .any, .any, .any, .any, .any, .any, .any, .any, .any, .any, .any, .any, .any, .any, .any, .any, .any, .any, .any, .any, .any, .any, .any, .any, .any, .any, .any, .any, .any, .any, .any, .any, .any], by omega, ?_, m + 1, _, _, by omega, rfl, ?_, rfl⟩
        · repeat (first | exact leEnv_nil | refine leEnv_any _ ?_ | refine leEnv_same _ ?_ | refine leEnv_norm _ ?_)
        · have := le_two v hX (binds_many 1 m)
          rw [← hv] at this ⊢
          exact this
      · rw [hq] at hX ⊢
        have hr : Int.tmod (k0 : Int) 3 = 2 := (show Int.tmod (k0 : Int) 3 = ((k0 % 3 : Nat) : Int) from rfl).trans (by rw [hq]; rfl)
        obtain ⟨v, hv⟩ : ∃ v : Int, (m + 1 : Int) * ((2 / 2 : Nat) : Int) = v := ⟨_, rfl⟩
        have hv2 : IntKind.i64.wrap (((m + 1 : Nat) : Int) * IntKind.i64.wrap (Int.tdiv 2 2)) = v := by
          rw [← hv]
          show IntKind.i64.wrap (((m + 1 : Nat) : Int) * 1) = (m + 1 : Int) * 1
          rw [IntWalk.i64_in _ (by omega)]; omega
        simp -implicitDefEqProofs (maxSteps := 2000000) only [↓ops_nil, ↓ops_none, ↓ops_some, ↓kd_eff, ↓dr_nil, ↓dr_cons, ↓d1_none, ↓d1_some, ↓eff_store, ↓eff_box, ↓eff_alloc, ↓eff_build, ↓eff_buildSlice, ↓eff_call, ↓eff_append, ↓eff_copy, ↓eff_clear, ↓eff_make, ↓reduceIte, ↓c_condI, ↓c_seqH, ↓c_blockH, ↓then_nH, ↓then_rH, ↓then_eH, ↓block_nH, ↓block_rH, ↓block_eH, go_sem, c1, hw, hr, hv2, Int.reduceBEq]
        refine ⟨b - 1, [i64 n, i64 k0, .any, .any, .sc (.bool false), .ptr st.length 0, i64 ((m + 1 : Nat) : Int), .any, .any, .any, .any, .any, .any, .any, .any, .any, .any, .any, .any, .any, .any, .any, .any, .any, .any, .any, .any, .any, .any, .any, .any, .any, .any, .any, .any, .any, .any, .any, .any, .any, .any, .any, .any, .any, .any, .any, .any, .any, .any, .any, .any, .any, .any, .any, .any, .any, .any, .any, .any, .any, .any, .any, .any, .any, .any, .any, .any, .any, .any, .any, .any, .any, .any, .any, .any, .any, .any, .any, .any, .any, .any, .any, .any, .any, .any, .any, .any, .any], by omega, ?_, m + 1, _, _, by omega, rfl, ?_, rfl⟩
        · repeat (first | exact leEnv_nil | refine leEnv_any _ ?_ | refine leEnv_same _ ?_ | refine leEnv_norm _ ?_)
        · have := le_two v hX (binds_many 2 m)
          rw [← hv] at this ⊢
          exact this
    · obtain rfl : m = n := by omega
      have c1 : ¬ (m : Int) < (m : Int) := by omega
      obtain ⟨c, hc⟩ : ∃ c, manyC (k0 % 3) m = c := ⟨_, rfl⟩
      have hbn := binds_many (k0 % 3) m
      have hfit := fit_many (k0 % 3) m
      have hgo : GoR (m + 2) (manyC (k0 % 3) m) 0 0 := @goR_many (k0 % 3) m (m + 2) (by omega) (by omega) 0 0 (by omega) (by omega)
      have hlen := many_len (k0 % 3) m (m + 2) 0 true ⟨[], [], false⟩ (by omega)
      have htx := many_texts (k0 % 3) m (m + 2) 0 true ⟨[], [], false⟩ (by omega)
      have href := gen_ref (k0 % 3) m (m + 2) (by omega)
      rw [hc] at hX hbn hfit hgo hlen htx href ⊢
      obtain ⟨X1, G1, hx1⟩ : ∃ X1 G1, expR (m + 2) c 0 true ⟨[], [], false⟩ = (X1, G1) := ⟨_, _, rfl⟩
      rw [hx1] at hlen htx
      simp only [List.length_nil] at hlen htx
      have e0 : st ++ (Ob.cells [i64 c.kind, i64 c.number, str c.text, X, i64 0, .slice .full 0 [], .slice .full 0 [], .slice .full 0 [], .slice .full 0 []] :: ex) = st ++ (Ob.cells [i64 c.kind, i64 c.number, str c.text, X, i64 0, .slice .full 0 [], .slice .full 0 [], .slice .full 0 [], .slice .full 0 []] :: ex) := rfl
      obtain ⟨S, hS⟩ : ∃ S, st ++ (Ob.cells [i64 c.kind, i64 c.number, str c.text, X, i64 0, .slice .full 0 [], .slice .full 0 [], .slice .full 0 [], .slice .full 0 []] :: ex) = S := ⟨_, rfl⟩
      have hgS : S[gid]? = some (Ob.glob 0 (.int .i64 gm)) := by rw [← hS]; exact get_app hg _
      have hSx : ∃ ex', S = st ++ ex' := ⟨_, hS.symm⟩
      simp -implicitDefEqProofs (maxSteps := 2000000) only [↓ops_nil, ↓ops_none, ↓ops_some, ↓kd_eff, ↓dr_nil, ↓dr_cons, ↓d1_none, ↓d1_some, ↓eff_store, ↓eff_box, ↓eff_alloc, ↓eff_build, ↓eff_buildSlice, ↓eff_call, ↓eff_append, ↓eff_copy, ↓eff_clear, ↓eff_make, ↓reduceIte, ↓c_condI, ↓c_seqH, ↓c_blockH, ↓then_nH, ↓then_rH, ↓then_eH, ↓block_nH, ↓block_rH, ↓block_eH, go_sem, c1]
      rw [hS]
      refine acalls_args (args' := [.slice .imm 11 ([(⟨0, 0, c⟩ : Fu)].map fuSV), .slice .full 0 [], i64 0]) (.cons (le_fu hX hbn) (.cons (SVle.refl _) (.cons (SVle.refl _) .nil))) ?_
      refine gen_c (m + 2) (by omega) 0 [⟨0, 0, c⟩] (by simp) (fun f hf => by simp only [List.mem_singleton] at hf; subst hf; exact hfit) .imm _ _ hgS fun cd k e hgen z1 z2 z3 hz => ?_
      rw [href] at hgen
      have hbd := ref_len hx1 htx (by omega) (by omega) hgen
      simp -implicitDefEqProofs (maxSteps := 2000000) only [↓ops_nil, ↓ops_none, ↓ops_some, ↓kd_eff, ↓dr_nil, ↓dr_cons, ↓d1_none, ↓d1_some, ↓eff_store, ↓eff_box, ↓eff_alloc, ↓eff_build, ↓eff_buildSlice, ↓eff_call, ↓eff_append, ↓eff_copy, ↓eff_clear, ↓eff_make, ↓reduceIte, ↓c_condI, ↓c_seqH, ↓c_blockH, ↓then_nH, ↓then_rH, ↓then_eH, ↓block_nH, ↓block_rH, ↓block_eH, go_sem, cdCells]
      refine acalls_args (args' := [.slice .imm 11 [fuSV (⟨0, 0, c⟩ : Fu)], .slice .full 0 [], i64 0]) (.cons (le_fu hX hbn) (.cons (SVle.refl _) (.cons (SVle.refl _) .nil))) ?_
      refine rgen_c (m + 2) (by omega) c hgo hfit hx1 htx (by omega) (by omega) .imm _ _ fun cd2 k2 e2 hgen2 y1 y2 y3 hy => ?_
      rw [hgen] at hgen2
      cases hgen2
      have bk : ∀ x : Int, (x == x) = true := fun x => by simp
      simp -implicitDefEqProofs (maxSteps := 2000000) only [↓ops_nil, ↓ops_none, ↓ops_some, ↓kd_eff, ↓dr_nil, ↓dr_cons, ↓d1_none, ↓d1_some, ↓eff_store, ↓eff_box, ↓eff_alloc, ↓eff_build, ↓eff_buildSlice, ↓eff_call, ↓eff_append, ↓eff_copy, ↓eff_clear, ↓eff_make, ↓reduceIte, ↓c_condI, ↓c_seqH, ↓c_blockH, ↓then_nH, ↓then_rH, ↓then_eH, ↓block_nH, ↓block_rH, ↓block_eH, go_sem, cdCells]
      refine csame_c cd hbd.1 hbd.2.1 hbd.2.2.1 hbd.2.2.2 hz hy _ _ ?_
      simp -implicitDefEqProofs (maxSteps := 2000000) only [↓ops_nil, ↓ops_none, ↓ops_some, ↓kd_eff, ↓dr_nil, ↓dr_cons, ↓d1_none, ↓d1_some, ↓eff_store, ↓eff_box, ↓eff_alloc, ↓eff_build, ↓eff_buildSlice, ↓eff_call, ↓eff_append, ↓eff_copy, ↓eff_clear, ↓eff_make, ↓reduceIte, ↓c_condI, ↓c_seqH, ↓c_blockH, ↓then_nH, ↓then_rH, ↓then_eH, ↓block_nH, ↓block_rH, ↓block_eH, go_sem, bk]
      refine lives_c _ _ (get_app hgS _) ?_
      simp -implicitDefEqProofs (maxSteps := 2000000) only [↓ops_nil, ↓ops_none, ↓ops_some, ↓kd_eff, ↓dr_nil, ↓dr_cons, ↓d1_none, ↓d1_some, ↓eff_store, ↓eff_box, ↓eff_alloc, ↓eff_build, ↓eff_buildSlice, ↓eff_call, ↓eff_append, ↓eff_copy, ↓eff_clear, ↓eff_make, ↓reduceIte, ↓c_condI, ↓c_seqH, ↓c_blockH, ↓then_nH, ↓then_rH, ↓then_eH, ↓block_nH, ↓block_rH, ↓block_eH, go_sem]
      exact fin _ (ex_app2 hSx _)
end Go.Proofs
set_option linter.unusedVariables false
namespace Go.Proofs.YtammbegfobhflaaGreat.genMany
open Go.ChangeMaps Go.ChangeShapes Go.WideShapes Go.ChangeAt Go.RowKit Go.AL Go.RowKit
theorem own : ownKnob Tryz.prog.godebug = none := by kernel_rfl
theorem glob0 {W : World} (h : W.ShapedOpen Tryz.prog) : ∃ m, W.cell? ⟨0, 0, none⟩ = some (.int .i64 m) :=
  cell_of_shapedOpen_int (zero := #[.int .i64 0]) (t := 3) h (by decide +kernel) (by kernel_rfl) rfl (by kernel_rfl) (by kernel_rfl) (by kernel_rfl)
set_option maxRecDepth 100000 in
theorem lifted (os : Os) (started : os.Started) (H : Type) (enc : TypeId × Value → H) :
    ReturnsInHanded {} Tryz.checked os 3 .any (Rows.genManySpec.pre6 enc Tryz.prog Tryz.f3 Rows.genManyRow.domain false) (Rows.genManySpec.post enc Tryz.prog Tryz.f3 false true false false) := by
  refine handed_open6 (C := Tryz.checked) own started (by kernel_rfl) Tryz.func3
    (ChangeSpec.witness_shaped (enc := enc) (C := Tryz.checked) (os := os) (X := fun _ _ => True) false (World.laidAll Tryz.prog os []) #[.int .i64 0, .int .i64 0] 8 (World.laidAll_os _ _ _) (World.shaped_of_ZipB (by kernel_rfl) (by kernel_rfl)) (by kernel_rfl) (by kernel_rfl) (by kernel_rfl) trivial) ?_
  intro W base args ds gs before hsh hval0 hW
  have hval : ∀ (j : Nat) t v, Tryz.f3.params[j]? = some t → args[j]? = some v → Value.okWide Tryz.prog W .any base t v := hval0
  have hW' := hW
  obtain ⟨p, q, hA0, hV, rfl, hfz, hnd⟩ := hW
  have hA : DataW.TrodAll enc Tryz.prog W 0 (fun _ => true) true Tryz.f3.params.toList args.toList ds p := hA0
  rw [Tryz.params3] at hA hval
  obtain ⟨v0, vs0, d0, ds0, p0, q0, hargs, rfl, rfl, h0, r0⟩ := trodAll_cons hA
  obtain ⟨v1, vs1, d1, ds1, p1, q1, hargs1, rfl, rfl, h1, r1⟩ := trodAll_cons r0
  obtain ⟨rfl, rfl, rfl⟩ := trodAll_nil r1
  subst hargs1
  obtain rfl : args = #[v0, v1] := by cases args; simp_all
  obtain ⟨rfl, rfl⟩ := trodVars_none hV
  obtain ⟨a0, rfl, rfl, rfl, g0⟩ := open_int Tryz.underlying3 (hval 0 3 v0 rfl rfl) h0
  obtain ⟨a1, rfl, rfl, rfl, g1⟩ := open_int Tryz.underlying3 (hval 1 3 v1 rfl rfl) h1
  clear hA0 hval0
  simp only [List.append_nil] at hW'
  obtain ⟨m, hm⟩ := glob0 hsh
  refine (calls_topG hm (args := [.sc (.int .i64 a0), .sc (.int .i64 a1)]) (law_c a0 a1 (i64_wf g0) (i64_wf g1) (gid := 0) (gm := m) (fun x _ => x = .sc (.bool true)) [.glob 0 (.int .i64 m)] rfl rfl) ⟨rfl, fun i hi => ?_⟩).mono fun e W' ⟨he, hg⟩ => ?_
  · match i, hi with
    | 0, _ => exact .sc _
    | 1, _ => exact .sc _
  subst he
  exact ⟨_, rfl, post_below (pa := []) (pv := []) hW' (fun _ _ _ => (trodAll_cons_mk (shut_bool Tryz.underlying4 _) trodAll_mk0))
    (fun sp hsp => (trodAll_cons_mk (shut_int Tryz.underlying3 g0) (trodAll_cons_mk (shut_int Tryz.underlying3 g1) trodAll_mk0))) (fun _ _ => rfl) rfl
    hg (ok_one (by kernel_rfl) rfl (okWide_bool_mk Tryz.underlying4 _))⟩
theorem over : Rows.GenManySaid :=
  OpenClaim.holds_of_wide 3 Tryz.f3 rfl rfl rfl rfl rfl rfl rfl ⟨rfl, rfl, rfl, rfl, rfl⟩ rfl rfl rfl rfl rfl (by kernel_rfl) Tryz.func3 (by kernel_rfl)
    (of_decide_eq_true (by kernel_rfl)) (by unfold Func.isWrapper; first | (rw [if_pos (by decide +kernel)]; kernel_rfl) | (rw [if_neg (by decide +kernel)]; exact ⟨rfl, rfl⟩))
    (fun os started H enc _ => lifted os started H enc)
theorem proved : Rows.GenManySaid :=
  over
#print axioms proved
end Go.Proofs.YtammbegfobhflaaGreat.genMany
