/- The document's way (selvageref15): kids, op. -/
import Derived.Test.YtammbegfobhflaaGreatN3
import Derived.Test.YtammbegfobhflaaGreatN1
set_option linter.all false
set_option linter.unusedSimpArgs false
set_option linter.unusedVariables false
set_option maxRecDepth 8000
namespace Go.AL
section
variable {s : St} {L : RL} {g g' : GR} {v v' : Nat}
theorem gWS (hA : AtG s L g v) {ga gb : GR} {va vb : Nat} (ex : St) (n : Nat) (hn : ex.length = n) : (gW ((gW s L ga va ++ ex) ++ [Ob.tok 0]) L gb vb).set (s.length + n) (.tok 1) = gW s L gb vb ++ (ex ++ [.tok 1]) := by
  have hAt := hA.turn ga va
  subst hn
  rw [gW_app (hAt.app ex), gW_app hAt, gW_gW hA, List.append_assoc, List.set_append_right _ _ (by rw [gW_len]; omega), gW_len]
  rw [show s.length + ex.length - s.length = ex.length by omega, List.set_append_right _ _ (Nat.le_refl _), Nat.sub_self]
  rfl
theorem tok_at1 {k : Nat} {r : St} : tokAt (gW s L g v ++ (Ob.tok k :: r)) s.length k = True := eq_true (by
  have := gW_len (s := s) (L := L) (g := g) (v := v)
  simp [tokAt, ← this])
theorem set_at1 {k k' : Nat} {r : St} : (gW s L g v ++ (Ob.tok k :: r)).set s.length (.tok k') = gW s L g v ++ (Ob.tok k' :: r) := by
  have := gW_len (s := s) (L := L) (g := g) (v := v)
  rw [List.set_append_right _ _ (by omega), this, Nat.sub_self]
  rfl
theorem get_at1 {k : Nat} {r : St} : (gW s L g v ++ (Ob.tok k :: r))[s.length]? = some (.tok k) := by
  have := gW_len (s := s) (L := L) (g := g) (v := v)
  rw [List.getElem?_append_right (by omega), this, Nat.sub_self]
  rfl
theorem get_atN {ex : St} {n : Nat} (hn : ex.length = n) : ((gW s L g v ++ ex) ++ [Ob.tok 0])[s.length + n]? = some (.tok 0) := by
  have := gW_len (s := s) (L := L) (g := g) (v := v)
  rw [List.getElem?_append_right (by simp [this]; omega)]
  simp [this, hn]
end
end Go.AL
namespace Go.Proofs
open Go Go.AL
set_option maxHeartbeats 4000000 in
theorem rkids_c (d n : Nat) (hn : n ≤ 1000) (hd : n < d + 1) {x : Int} {Bd Bi : Nat} (h1 : Bd + 10 ≤ 100000) (h2 : Bi + 10 ≤ 10000) (ih : GoR (d + 1) (manyC 1 n) (Bd + 3) (Bi + 1)) {s : St} {L : RL} {g : GR} {v : Nat} (hA : AtG s L g v) {T tv : Nat} (hT : s[T]? = some (.tok tv)) (hTi : T ≠ L.ti)
    (base : Nat) (hb : base ≤ Bd) (hl : g.ints.length ≤ Bi) {o1 o2 : List In} {g1 g2 : GR} (hx1 : expR (d + 1) (leafC x) base false g = (o1, g1)) (hx2 : expR (d + 1) (manyC 1 n) (base + o1.length) false g1 = (o2, g2)) (K : SV → St → Prop)
    (h : ∀ v', K (.slice (.own T (tv + 1)) 3 ((o1 ++ o2).map inSV)) ((gW s L g2 v').set T (.tok (tv + 1)))) : ACalls Tryz.prog 32 [.ptr L.id 0, .agg [i64 14, i64 0, str ⟨⟨[43]⟩⟩, .slice .imm 9 [coSV (leafC x), coSV (manyC 1 n)], i64 0, .slice .imm 1 [], .slice .imm 6 [], .slice .imm 4 [], .slice .imm 1 []], i64 base] K s := by
  have hl1 := leaf_len d x base false g
  rw [hx1] at hl1
  simp only at hl1
  have hl2 := many_len 1 n (d + 1) (base + o1.length) false g1 hd
  rw [hx2] at hl2
  simp only at hl2
  have n2 : ((0 : Int) < ((2 : Nat) : Int)) = True := eq_true (by decide)
  have n3 : ((1 : Int) < ((2 : Nat) : Int)) = True := eq_true (by decide)
  have n4 : ((2 : Int) < ((2 : Nat) : Int)) = False := eq_false (by decide)
  have t0 : Int.toNat 1 = 1 := rfl
  have w1 : IntKind.i64.wrap ((0 : Int) + 1) = 1 := rfl
  have w2 : IntKind.i64.wrap ((1 : Int) + 1) = 2 := rfl
  have wb0 : IntKind.i64.wrap ((base : Int) + ((0 : Nat) : Int)) = (base : Int) := by rw [IntWalk.i64_in _ (by omega)]; simp
  have wb1 : IntKind.i64.wrap ((base : Int) + (o1.length : Int)) = ((base + o1.length : Nat) : Int) := by rw [IntWalk.i64_in _ (by omega)]; rfl
  have hTt := lt_of_get hA.t
  refine acalls_goO T 3 (M := []) Tryz.func32 rfl Tryz.results32 Tryz.ntmps32 ?_
  simp -implicitDefEqProofs (maxSteps := 2000000) only [↓ops_nil, ↓ops_none, ↓ops_some, ↓kd_eff, ↓dr_nil, ↓dr_cons, ↓d1_none, ↓d1_some, ↓eff_store, ↓eff_box, ↓eff_alloc, ↓eff_build, ↓eff_buildSlice, ↓eff_call, ↓eff_append, ↓eff_copy, ↓eff_clear, ↓eff_make, ↓reduceIte, ↓c_condI, ↓c_seqH, ↓c_blockH, ↓then_nH, ↓then_rH, ↓then_eH, ↓block_nH, ↓block_rH, ↓block_eH, go_sem]
  refine awp_own 7 3 0 rfl ?_
  rw [show s ++ [Ob.tok 0] = gW s L g v ++ [Ob.tok 0] by rw [gW_self hA]]
  refine awp_rounds [] (fun b e s' =>
      (b = 2 ∧ s' = gW s L g v ++ [Ob.tok 0] ∧ e = [.ptr L.id 0, .any, i64 base, .any, .ref [i64 14, i64 0, str ⟨⟨[43]⟩⟩, .slice .imm 9 [coSV (leafC x), coSV (manyC 1 n)], i64 0, .slice .imm 1 [], .slice .imm 6 [], .slice .imm 4 [], .slice .imm 1 []], .any, .any, .slice (.own s.length 0) 3 [], i64 0, .any, .any, .any, .any, .any, .any, .any, .any, .any, .any, .any, .any, .any, .any, .any, .any, .any, .any, .any, .any, .any]) ∨
      (b = 1 ∧ ∃ v1, s' = gW s L g1 v1 ++ [Ob.tok 1, Ob.tok 1] ∧ e = [.ptr L.id 0, .any, i64 base, .any, .ref [i64 14, i64 0, str ⟨⟨[43]⟩⟩, .slice .imm 9 [coSV (leafC x), coSV (manyC 1 n)], i64 0, .slice .imm 1 [], .slice .imm 6 [], .slice .imm 4 [], .slice .imm 1 []], .any, .any, .slice (.own s.length 1) 3 (o1.map inSV), i64 1, .any, .any, .any, .any, .any, .any, .any, .any, .any, .any, .any, .any, .any, .any, .any, .any, .any, .any, .any, .any, .any]) ∨
      (b = 0 ∧ ∃ v1, s' = gW s L g2 v1 ++ [Ob.tok 2, Ob.tok 1, Ob.tok 1] ∧ e = [.ptr L.id 0, .any, i64 base, .any, .ref [i64 14, i64 0, str ⟨⟨[43]⟩⟩, .slice .imm 9 [coSV (leafC x), coSV (manyC 1 n)], i64 0, .slice .imm 1 [], .slice .imm 6 [], .slice .imm 4 [], .slice .imm 1 []], .any, .any, .slice (.own s.length 2) 3 (o1.map inSV ++ o2.map inSV), i64 2, .any, .any, .any, .any, .any, .any, .any, .any, .any, .any, .any, .any, .any, .any, .any, .any, .any, .any, .any, .any, .any])) (n := 2) ?_ (.inl ⟨rfl, rfl, rfl⟩) ?_
  · simp only [List.set_cons_succ, List.set_cons_zero]
    repeat (first | exact leEnv_nil | refine leEnv_any _ ?_ | refine leEnv_same _ ?_ | refine leEnv_norm _ ?_)
  rintro b e s' (⟨rfl, rfl, rfl⟩ | ⟨rfl, v1, rfl, rfl⟩ | ⟨rfl, v1, rfl, rfl⟩)
  · simp -implicitDefEqProofs (maxSteps := 2000000) only [↓ops_nil, ↓ops_none, ↓ops_some, ↓kd_eff, ↓dr_nil, ↓dr_cons, ↓d1_none, ↓d1_some, ↓eff_store, ↓eff_box, ↓eff_alloc, ↓eff_build, ↓eff_buildSlice, ↓eff_call, ↓eff_append, ↓eff_copy, ↓eff_clear, ↓eff_make, ↓reduceIte, ↓c_condI, ↓c_seqH, ↓c_blockH, ↓then_nH, ↓then_rH, ↓then_eH, ↓block_nH, ↓block_rH, ↓block_eH, go_sem, n2, cell_co, wb0]
    refine acalls_view view_tok ?_
    refine expL_c d (((hA.turn g v).app [Ob.tok 0]).app [Ob.tok 0]) (T := s.length + 1) (tv := 0) (get_atN rfl) (by omega) x base false (by omega) (by omega) _ fun v1 => ?_
    rw [hx1]
    simp only
    rw [gWS hA [Ob.tok 0] 1 rfl]
    have happ := Tryz.app49 (n := o1.length) (by omega)
    simp -implicitDefEqProofs (maxSteps := 2000000) only [↓ops_nil, ↓ops_none, ↓ops_some, ↓kd_eff, ↓dr_nil, ↓dr_cons, ↓d1_none, ↓d1_some, ↓eff_store, ↓eff_box, ↓eff_alloc, ↓eff_build, ↓eff_buildSlice, ↓eff_call, ↓eff_append, ↓eff_copy, ↓eff_clear, ↓eff_make, ↓reduceIte, ↓c_condI, ↓c_seqH, ↓c_blockH, ↓then_nH, ↓then_rH, ↓then_eH, ↓block_nH, ↓block_rH, ↓block_eH, go_sem, tok_at1, set_at1, List.length_map, w1]
    refine ⟨happ, fun x hx => by obtain ⟨a, _, rfl⟩ := List.mem_map.1 hx; rfl, 1, _, by omega, ?_, .inr (.inl ⟨rfl, v1, rfl, rfl⟩)⟩
    repeat (first | exact leEnv_nil | refine leEnv_any _ ?_ | refine leEnv_same _ ?_ | refine leEnv_norm _ ?_)
  · simp -implicitDefEqProofs (maxSteps := 2000000) only [↓ops_nil, ↓ops_none, ↓ops_some, ↓kd_eff, ↓dr_nil, ↓dr_cons, ↓d1_none, ↓d1_some, ↓eff_store, ↓eff_box, ↓eff_alloc, ↓eff_build, ↓eff_buildSlice, ↓eff_call, ↓eff_append, ↓eff_copy, ↓eff_clear, ↓eff_make, ↓reduceIte, ↓c_condI, ↓c_seqH, ↓c_blockH, ↓then_nH, ↓then_rH, ↓then_eH, ↓block_nH, ↓block_rH, ↓block_eH, go_sem, n3, t0, cell_co, wb1, List.length_map]
    refine acalls_view view_tok ?_
    refine ih (((hA.turn g1 v1).app [Ob.tok 1, Ob.tok 1]).app [Ob.tok 0]) (T := s.length + 2) (tv := 0) (get_atN rfl) (by omega) (base + o1.length) false (by omega) (by omega) _ fun v2 => ?_
    rw [hx2]
    simp only
    rw [gWS hA [Ob.tok 1, Ob.tok 1] 2 rfl]
    have happ := Tryz.app49 (n := o1.length + o2.length) (by omega)
    simp -implicitDefEqProofs (maxSteps := 2000000) only [↓ops_nil, ↓ops_none, ↓ops_some, ↓kd_eff, ↓dr_nil, ↓dr_cons, ↓d1_none, ↓d1_some, ↓eff_store, ↓eff_box, ↓eff_alloc, ↓eff_build, ↓eff_buildSlice, ↓eff_call, ↓eff_append, ↓eff_copy, ↓eff_clear, ↓eff_make, ↓reduceIte, ↓c_condI, ↓c_seqH, ↓c_blockH, ↓then_nH, ↓then_rH, ↓then_eH, ↓block_nH, ↓block_rH, ↓block_eH, go_sem, tok_at1, set_at1, List.length_map, w2]
    refine ⟨happ, fun x hx => by obtain ⟨a, _, rfl⟩ := List.mem_map.1 hx; rfl, 0, _, by omega, ?_, .inr (.inr ⟨rfl, v2, rfl, rfl⟩)⟩
    repeat (first | exact leEnv_nil | refine leEnv_any _ ?_ | refine leEnv_same _ ?_ | refine leEnv_norm _ ?_)
  · simp -implicitDefEqProofs (maxSteps := 2000000) only [↓ops_nil, ↓ops_none, ↓ops_some, ↓kd_eff, ↓dr_nil, ↓dr_cons, ↓d1_none, ↓d1_some, ↓eff_store, ↓eff_box, ↓eff_alloc, ↓eff_build, ↓eff_buildSlice, ↓eff_call, ↓eff_append, ↓eff_copy, ↓eff_clear, ↓eff_make, ↓reduceIte, ↓c_condI, ↓c_seqH, ↓c_blockH, ↓then_nH, ↓then_rH, ↓then_eH, ↓block_nH, ↓block_rH, ↓block_eH, go_sem, n4]
    have := fin_own (v' := v1) hA hT hTi (l := o1 ++ o2) (ex := [.tok 2, .tok 1, .tok 1]) (Tn := s.length) (vn := 2) get_at1 (Nat.le_refl _) (h v1)
    rw [List.map_append] at this
    exact this
theorem sign_at (k : Nat) (h : 1 ≤ k) (h2 : k < 7) : ∃ w : ByteArray, ([str ⟨#[43]⟩, str ⟨#[45]⟩, str ⟨#[42]⟩, str ⟨#[47]⟩, str ⟨#[37]⟩, str ⟨#[61]⟩, str ⟨#[60]⟩] : List SV).getD k .any = str w ∧ (w.toList == (⟨⟨[43]⟩⟩ : ByteArray).toList) = false := by
  match k, h, h2 with
  | 1, _, _ => exact ⟨_, rfl, by rw [ByteArray.toList_eq, ByteArray.toList_eq]; rfl⟩
  | 2, _, _ => exact ⟨_, rfl, by rw [ByteArray.toList_eq, ByteArray.toList_eq]; rfl⟩
  | 3, _, _ => exact ⟨_, rfl, by rw [ByteArray.toList_eq, ByteArray.toList_eq]; rfl⟩
  | 4, _, _ => exact ⟨_, rfl, by rw [ByteArray.toList_eq, ByteArray.toList_eq]; rfl⟩
  | 5, _, _ => exact ⟨_, rfl, by rw [ByteArray.toList_eq, ByteArray.toList_eq]; rfl⟩
  | 6, _, _ => exact ⟨_, rfl, by rw [ByteArray.toList_eq, ByteArray.toList_eq]; rfl⟩
set_option maxHeartbeats 4000000 in
theorem rop_go (d n : Nat) (hn : n ≤ 1000) (hd : n < d + 1) {x : Int} {Bd Bi : Nat} (h1 : Bd + 10 ≤ 100000) (h2 : Bi + 10 ≤ 10000) (ih : GoR (d + 1) (manyC 1 n) (Bd + 3) (Bi + 1)) {s : St} {L : RL} {g : GR} {v : Nat} (hA : AtG s L g v) {T tv : Nat} (hT : s[T]? = some (.tok tv)) (hTi : T ≠ L.ti)
    (base : Nat) (hb : base ≤ Bd) (hl : g.ints.length ≤ Bi) {o1 o2 : List In} {g1 g2 : GR} (hx1 : expR (d + 1) (leafC x) base false g = (o1, g1)) (hx2 : expR (d + 1) (manyC 1 n) (base + o1.length) false g1 = (o2, g2)) (K : SV → St → Prop)
    (h : ∀ v', K (.slice (.own T (tv + 1)) 3 (((o1 ++ o2) ++ [(⟨19, 0, 0⟩ : In)]).map inSV)) ((gW s L g2 v').set T (.tok (tv + 1)))) : ACalls Tryz.prog 36 [.ptr L.id 0, .agg [i64 14, i64 0, str ⟨⟨[43]⟩⟩, .slice .imm 9 [coSV (leafC x), coSV (manyC 1 n)], i64 0, .slice .imm 1 [], .slice .imm 6 [], .slice .imm 4 [], .slice .imm 1 []], i64 base] K s := by
  have hl1 := leaf_len d x base false g
  rw [hx1] at hl1
  simp only at hl1
  have hl2 := many_len 1 n (d + 1) (base + o1.length) false g1 hd
  rw [hx2] at hl2
  simp only at hl2
  have bt : ((⟨⟨[43]⟩⟩ : ByteArray).toList == (⟨#[94]⟩ : ByteArray).toList) = false := by rw [ByteArray.toList_eq, ByteArray.toList_eq]; rfl
  have bt2 : ((⟨#[43]⟩ : ByteArray).toList == (⟨⟨[43]⟩⟩ : ByteArray).toList) = true := by rw [ByteArray.toList_eq]; rfl
  have hTt := lt_of_get hA.t
  have happ := Tryz.app49 (n := o1.length + (o2.length + 1)) (by omega)
  obtain ⟨O, hO⟩ : ∃ O, (o1 ++ o2) ++ [(⟨19, 0, 0⟩ : In)] = O := ⟨_, rfl⟩
  rw [hO] at h
  refine acalls_goO T 3 (M := []) Tryz.func36 rfl Tryz.results36 Tryz.ntmps36 ?_
  simp -implicitDefEqProofs (maxSteps := 2000000) only [↓ops_nil, ↓ops_none, ↓ops_some, ↓kd_eff, ↓dr_nil, ↓dr_cons, ↓d1_none, ↓d1_some, ↓eff_store, ↓eff_box, ↓eff_alloc, ↓eff_build, ↓eff_buildSlice, ↓eff_call, ↓eff_append, ↓eff_copy, ↓eff_clear, ↓eff_make, ↓reduceIte, ↓c_condI, ↓c_seqH, ↓c_blockH, ↓then_nH, ↓then_rH, ↓then_eH, ↓block_nH, ↓block_rH, ↓block_eH, go_sem]
  refine acalls_view view_tok ?_
  refine rkids_c d n hn hd h1 h2 ih (hA.app [.tok 0]) (T := s.length) (tv := 0) (by simp) (by omega) base hb hl hx1 hx2 _ fun v2 => ?_
  rw [gWT hA]
  simp -implicitDefEqProofs (maxSteps := 2000000) only [↓ops_nil, ↓ops_none, ↓ops_some, ↓kd_eff, ↓dr_nil, ↓dr_cons, ↓d1_none, ↓d1_some, ↓eff_store, ↓eff_box, ↓eff_alloc, ↓eff_build, ↓eff_buildSlice, ↓eff_call, ↓eff_append, ↓eff_copy, ↓eff_clear, ↓eff_make, ↓reduceIte, ↓c_condI, ↓c_seqH, ↓c_blockH, ↓then_nH, ↓then_rH, ↓then_eH, ↓block_nH, ↓block_rH, ↓block_eH, go_sem, bt]
  refine awp_rounds [] (fun b e s' =>
      (b = 7 ∧ s' = gW s L g2 v2 ++ [Ob.tok 1] ∧ e = [.any, .any, .any, .any, .ref [i64 14, i64 0, str ⟨⟨[43]⟩⟩, .slice .imm 9 [coSV (leafC x), coSV (manyC 1 n)], i64 0, .slice .imm 1 [], .slice .imm 6 [], .slice .imm 4 [], .slice .imm 1 []], .any, .any, .slice (.own s.length 1) 3 ((o1 ++ o2).map inSV), .slice .full 1 [str ⟨#[43]⟩, str ⟨#[45]⟩, str ⟨#[42]⟩, str ⟨#[47]⟩, str ⟨#[37]⟩, str ⟨#[61]⟩, str ⟨#[60]⟩], i64 0, .any, .any, .any, .any, .any, .any, .any, .any, .any, .any, .any, .any, .any, .any, .any, .any, .any, .any, .any, .any, .any, .any, .any, .any, .any, .any, .any, .any, .any]) ∨
      (∃ k : Nat, 1 ≤ k ∧ k + b = 7 ∧ s' = gW s L g2 v2 ++ [Ob.tok 2] ∧ e = [.any, .any, .any, .any, .ref [i64 14, i64 0, str ⟨⟨[43]⟩⟩, .slice .imm 9 [coSV (leafC x), coSV (manyC 1 n)], i64 0, .slice .imm 1 [], .slice .imm 6 [], .slice .imm 4 [], .slice .imm 1 []], .any, .any, .slice (.own s.length 2) 3 (O.map inSV), .slice .full 1 [str ⟨#[43]⟩, str ⟨#[45]⟩, str ⟨#[42]⟩, str ⟨#[47]⟩, str ⟨#[37]⟩, str ⟨#[61]⟩, str ⟨#[60]⟩], i64 k, .any, .any, .any, .any, .any, .any, .any, .any, .any, .any, .any, .any, .any, .any, .any, .any, .any, .any, .any, .any, .any, .any, .any, .any, .any, .any, .any, .any, .any])) (n := 7) ?_ (.inl ⟨rfl, rfl, rfl⟩) ?_
  · repeat (first | exact leEnv_nil | refine leEnv_any _ ?_ | refine leEnv_same _ ?_ | refine leEnv_norm _ ?_)
  rintro b e s' (⟨rfl, rfl, rfl⟩ | ⟨k, hk1, hkb, rfl, rfl⟩)
  · simp -implicitDefEqProofs (maxSteps := 2000000) only [↓ops_nil, ↓ops_none, ↓ops_some, ↓kd_eff, ↓dr_nil, ↓dr_cons, ↓d1_none, ↓d1_some, ↓eff_store, ↓eff_box, ↓eff_alloc, ↓eff_build, ↓eff_buildSlice, ↓eff_call, ↓eff_append, ↓eff_copy, ↓eff_clear, ↓eff_make, ↓reduceIte, ↓c_condI, ↓c_seqH, ↓c_blockH, ↓then_nH, ↓then_rH, ↓then_eH, ↓block_nH, ↓block_rH, ↓block_eH, go_sem]
    refine awp_draw [] Tryz.mixed rfl ?_
    have n7 : ((0 : Int) < ((7 : Nat) : Int)) = True := eq_true (by decide)
    have w1 : IntKind.i64.wrap ((0 : Int) + 1) = ((1 : Nat) : Int) := rfl
    simp -implicitDefEqProofs (maxSteps := 2000000) only [↓ops_nil, ↓ops_none, ↓ops_some, ↓kd_eff, ↓dr_nil, ↓dr_cons, ↓d1_none, ↓d1_some, ↓eff_store, ↓eff_box, ↓eff_alloc, ↓eff_build, ↓eff_buildSlice, ↓eff_call, ↓eff_append, ↓eff_copy, ↓eff_clear, ↓eff_make, ↓reduceIte, ↓c_condI, ↓c_seqH, ↓c_blockH, ↓then_nH, ↓then_rH, ↓then_eH, ↓block_nH, ↓block_rH, ↓block_eH, go_sem, bt2, n7]
    refine one_c _ _ _ _ _ ?_
    have hmm : (o1 ++ o2).map inSV ++ [SV.agg [i64 19, i64 0, i64 0]] = O.map inSV := by rw [← hO, List.map_append (l₁ := o1 ++ o2)]; rfl
    simp -implicitDefEqProofs (maxSteps := 2000000) only [↓ops_nil, ↓ops_none, ↓ops_some, ↓kd_eff, ↓dr_nil, ↓dr_cons, ↓d1_none, ↓d1_some, ↓eff_store, ↓eff_box, ↓eff_alloc, ↓eff_build, ↓eff_buildSlice, ↓eff_call, ↓eff_append, ↓eff_copy, ↓eff_clear, ↓eff_make, ↓reduceIte, ↓c_condI, ↓c_seqH, ↓c_blockH, ↓then_nH, ↓then_rH, ↓then_eH, ↓block_nH, ↓block_rH, ↓block_eH, go_sem, tok_at1, set_at1, List.length_map, hmm, w1]
    refine ⟨happ, 6, _, by omega, ?_, .inr ⟨1, by omega, by omega, rfl⟩⟩
    repeat (first | exact leEnv_nil | refine leEnv_any _ ?_ | refine leEnv_same _ ?_ | refine leEnv_norm _ ?_)
  · by_cases hlt : k < 7
    · have d1 : (k : Int) < 7 := by omega
      obtain ⟨w, hw1, hw2⟩ := sign_at k hk1 hlt
      have hw : IntKind.i64.wrap ((k : Int) + 1) = ((k + 1 : Nat) : Int) := by rw [IntWalk.i64_in _ (by omega)]; rfl
      simp -implicitDefEqProofs (maxSteps := 2000000) only [↓ops_nil, ↓ops_none, ↓ops_some, ↓kd_eff, ↓dr_nil, ↓dr_cons, ↓d1_none, ↓d1_some, ↓eff_store, ↓eff_box, ↓eff_alloc, ↓eff_build, ↓eff_buildSlice, ↓eff_call, ↓eff_append, ↓eff_copy, ↓eff_clear, ↓eff_make, ↓reduceIte, ↓c_condI, ↓c_seqH, ↓c_blockH, ↓then_nH, ↓then_rH, ↓then_eH, ↓block_nH, ↓block_rH, ↓block_eH, go_sem, d1]
      refine awp_draw [] Tryz.mixed rfl ?_
      have d7 : ((k : Int) < ((7 : Nat) : Int)) = True := eq_true (by omega)
      simp -implicitDefEqProofs (maxSteps := 2000000) only [↓ops_nil, ↓ops_none, ↓ops_some, ↓kd_eff, ↓dr_nil, ↓dr_cons, ↓d1_none, ↓d1_some, ↓eff_store, ↓eff_box, ↓eff_alloc, ↓eff_build, ↓eff_buildSlice, ↓eff_call, ↓eff_append, ↓eff_copy, ↓eff_clear, ↓eff_make, ↓reduceIte, ↓c_condI, ↓c_seqH, ↓c_blockH, ↓then_nH, ↓then_rH, ↓then_eH, ↓block_nH, ↓block_rH, ↓block_eH, go_sem, d1, d7, hw1, hw2, hw]
      refine ⟨b - 1, _, by omega, ?_, .inr ⟨k + 1, by omega, by omega, rfl⟩⟩
      repeat (first | exact leEnv_nil | refine leEnv_any _ ?_ | refine leEnv_same _ ?_ | refine leEnv_norm _ ?_)
    · obtain rfl : k = 7 := by omega
      have d1 : ¬ (((7 : Nat) : Int) < 7) := by omega
      simp -implicitDefEqProofs (maxSteps := 2000000) only [↓ops_nil, ↓ops_none, ↓ops_some, ↓kd_eff, ↓dr_nil, ↓dr_cons, ↓d1_none, ↓d1_some, ↓eff_store, ↓eff_box, ↓eff_alloc, ↓eff_build, ↓eff_buildSlice, ↓eff_call, ↓eff_append, ↓eff_copy, ↓eff_clear, ↓eff_make, ↓reduceIte, ↓c_condI, ↓c_seqH, ↓c_blockH, ↓then_nH, ↓then_rH, ↓then_eH, ↓block_nH, ↓block_rH, ↓block_eH, go_sem, d1]
      exact fin_own (v' := v2) hA hT hTi (l := O) (ex := [.tok 2]) (Tn := s.length) (vn := 2) get_at1 (Nat.le_refl _) (h v2)
end Go.Proofs
set_option linter.unusedSimpArgs false
set_option linter.unusedVariables false
set_option maxRecDepth 8000
namespace Go.Proofs
open Go Go.AL
set_option maxHeartbeats 4000000 in
theorem rop_c (d n : Nat) (hn : n ≤ 1000) (hd : n < d + 1) (Bd Bi : Nat) (h1 : Bd + 10 ≤ 100000) (h2 : Bi + 10 ≤ 10000) (ih : GoR (d + 1) (manyC 1 n) (Bd + 3) (Bi + 1)) : GoR (d + 2) (manyC 1 (n + 1)) Bd Bi := by
  intro s L g v hA T tv hT hTi base last hb hl K h
  rw [expR_op] at h
  obtain ⟨⟨q1, q2, q3⟩, ⟨q4, q5⟩⟩ := hA.facts
  refine acalls_goO T 3 (M := []) Tryz.func13 rfl Tryz.results13 Tryz.ntmps13 ?_
  rw [coSV_op]
  obtain ⟨x, hx⟩ : ∃ x, (n + 1 : Int) * (1 / 2 : Nat) = x := ⟨_, rfl⟩
  rw [hx] at h ⊢
  by_cases hc : 400 < base
  · have e : manyX g base = { g with many := true } := by unfold manyX; rw [if_pos hc]
    rw [e] at h
    simp only [if_true] at h
    have d1 : (400 : Int) < (base : Int) := by omega
    obtain ⟨S2, hS2⟩ : ∃ S2, s.set L.id (.cells [.slice .full 0 [], .slice (.own L.ti v) 1 (g.ints.map i64), .slice .full 0 [], .sc (.bool true)]) = S2 := ⟨_, rfl⟩
    have e2 : gW s L { g with many := true } v = S2 := by
      rw [← hS2]
      unfold gW gOb
      rw [List.set_comm _ _ hA.ne]
      have hlt := lt_of_get hA.t
      have := hA.t
      rw [List.getElem?_eq_getElem hlt] at this
      rw [← Option.some.inj this, List.set_getElem_self]
    have r2 := cells_facts (show S2[L.id]? = some (.cells [.slice .full 0 [], .slice (.own L.ti v) 1 (g.ints.map i64), .slice .full 0 [], .sc (.bool true)]) by rw [← hS2, set_get (lt_of_get hA.o)])
    simp -implicitDefEqProofs (maxSteps := 2000000) only [↓ops_nil, ↓ops_none, ↓ops_some, ↓kd_eff, ↓dr_nil, ↓dr_cons, ↓d1_none, ↓d1_some, ↓eff_store, ↓eff_box, ↓eff_alloc, ↓eff_build, ↓eff_buildSlice, ↓eff_call, ↓eff_append, ↓eff_copy, ↓eff_clear, ↓eff_make, ↓reduceIte, ↓c_condI, ↓c_seqH, ↓c_blockH, ↓then_nH, ↓then_rH, ↓then_eH, ↓block_nH, ↓block_rH, ↓block_eH, go_sem, d1, q1, q2, q3, gOb, hS2, r2.1, r2.2.1, r2.2.2]
    rw [← e2]
    exact fin_nil hA hT hTi (h v)
  have e : manyX g base = g := by unfold manyX; rw [if_neg hc]
  rw [e] at h
  have d1 : ¬ (400 : Int) < (base : Int) := by omega
  obtain ⟨mn, hmn⟩ : ∃ mn, g.many = mn := ⟨_, rfl⟩
  cases mn with
  | true =>
    rw [hmn] at h
    simp only [if_true] at h
    simp -implicitDefEqProofs (maxSteps := 2000000) only [↓ops_nil, ↓ops_none, ↓ops_some, ↓kd_eff, ↓dr_nil, ↓dr_cons, ↓d1_none, ↓d1_some, ↓eff_store, ↓eff_box, ↓eff_alloc, ↓eff_build, ↓eff_buildSlice, ↓eff_call, ↓eff_append, ↓eff_copy, ↓eff_clear, ↓eff_make, ↓reduceIte, ↓c_condI, ↓c_seqH, ↓c_blockH, ↓then_nH, ↓then_rH, ↓then_eH, ↓block_nH, ↓block_rH, ↓block_eH, go_sem, d1, q1, q2, q3, gOb, hmn]
    have := fin_nil (g' := g) (v' := v) hA hT hTi (z := 0) (h v)
    rw [gW_self hA] at this
    exact this
  | false =>
    rw [hmn] at h
    simp only [Bool.false_eq_true, if_false] at h
    have hl1 := leaf_len d x base false g
    obtain ⟨o1, g1, hx1⟩ : ∃ o1 g1, expR (d + 1) (leafC x) base false g = (o1, g1) := ⟨_, _, rfl⟩
    rw [hx1] at hl1 h
    simp only at hl1 h
    have hl2 := many_len 1 n (d + 1) (base + o1.length) false g1 hd
    obtain ⟨o2, g2, hx2⟩ : ∃ o2 g2, expR (d + 1) (manyC 1 n) (base + o1.length) false g1 = (o2, g2) := ⟨_, _, rfl⟩
    rw [hx2] at hl2 h
    simp only at hl2 h
    simp -implicitDefEqProofs (maxSteps := 2000000) only [↓ops_nil, ↓ops_none, ↓ops_some, ↓kd_eff, ↓dr_nil, ↓dr_cons, ↓d1_none, ↓d1_some, ↓eff_store, ↓eff_box, ↓eff_alloc, ↓eff_build, ↓eff_buildSlice, ↓eff_call, ↓eff_append, ↓eff_copy, ↓eff_clear, ↓eff_make, ↓reduceIte, ↓c_condI, ↓c_seqH, ↓c_blockH, ↓then_nH, ↓then_rH, ↓then_eH, ↓block_nH, ↓block_rH, ↓block_eH, go_sem, d1, q1, q2, q3, gOb, hmn, Int.reduceBEq]
    refine acalls_view view_tok ?_
    refine rop_go d n hn hd h1 h2 ih (hA.app [.tok 0]) (T := s.length) (tv := 0) (by simp) (by have := lt_of_get hA.t; omega) base hb hl hx1 hx2 _ fun v2 => ?_
    rw [gWT hA]
    obtain ⟨O, hO⟩ : ∃ O, (o1 ++ o2) ++ [(⟨19, 0, 0⟩ : In)] = O := ⟨_, rfl⟩
    rw [hO] at h ⊢
    have hOl : O.length ≤ 5000 := by rw [← hO]; simp only [List.length_append, List.length_cons, List.length_nil]; omega
    cases last with
    | false =>
      simp only [Bool.false_eq_true, if_false] at h
      simp -implicitDefEqProofs (maxSteps := 2000000) only [↓ops_nil, ↓ops_none, ↓ops_some, ↓kd_eff, ↓dr_nil, ↓dr_cons, ↓d1_none, ↓d1_some, ↓eff_store, ↓eff_box, ↓eff_alloc, ↓eff_build, ↓eff_buildSlice, ↓eff_call, ↓eff_append, ↓eff_copy, ↓eff_clear, ↓eff_make, ↓reduceIte, ↓c_condI, ↓c_seqH, ↓c_blockH, ↓then_nH, ↓then_rH, ↓then_eH, ↓block_nH, ↓block_rH, ↓block_eH, go_sem]
      exact fin_own (v' := v2) hA hT hTi (l := O) (ex := [.tok 1]) (Tn := s.length) (vn := 1) get_at1 (Nat.le_refl _) (h v2)
    | true =>
      simp only [if_true] at h
      have happ := Tryz.app49 (n := O.length + 1) (by omega)
      simp -implicitDefEqProofs (maxSteps := 2000000) only [↓ops_nil, ↓ops_none, ↓ops_some, ↓kd_eff, ↓dr_nil, ↓dr_cons, ↓d1_none, ↓d1_some, ↓eff_store, ↓eff_box, ↓eff_alloc, ↓eff_build, ↓eff_buildSlice, ↓eff_call, ↓eff_append, ↓eff_copy, ↓eff_clear, ↓eff_make, ↓reduceIte, ↓c_condI, ↓c_seqH, ↓c_blockH, ↓then_nH, ↓then_rH, ↓then_eH, ↓block_nH, ↓block_rH, ↓block_eH, go_sem]
      refine one_c _ _ _ _ _ ?_
      simp -implicitDefEqProofs (maxSteps := 2000000) only [↓ops_nil, ↓ops_none, ↓ops_some, ↓kd_eff, ↓dr_nil, ↓dr_cons, ↓d1_none, ↓d1_some, ↓eff_store, ↓eff_box, ↓eff_alloc, ↓eff_build, ↓eff_buildSlice, ↓eff_call, ↓eff_append, ↓eff_copy, ↓eff_clear, ↓eff_make, ↓reduceIte, ↓c_condI, ↓c_seqH, ↓c_blockH, ↓then_nH, ↓then_rH, ↓then_eH, ↓block_nH, ↓block_rH, ↓block_eH, go_sem, tok_at1, set_at1, List.length_map]
      refine ⟨happ, ?_⟩
      have := fin_own (v' := v2) hA hT hTi (l := O ++ [⟨15, 0, 0⟩]) (ex := [.tok 2]) (Tn := s.length) (vn := 2) get_at1 (Nat.le_refl _) (h v2)
      rw [List.map_append] at this
      exact this
theorem goR_many (kind : Nat) (n : Nat) : ∀ (d : Nat), n ≤ 1000 → n < d → ∀ Bd Bi : Nat, Bd + 4 * n + 20 ≤ 100000 → Bi + 2 * n + 20 ≤ 10000 → GoR d (manyC kind n) Bd Bi := by
  induction n with
  | zero =>
    intro d _ hd Bd Bi h1 h2
    obtain ⟨e, rfl⟩ : ∃ e, d = e + 1 := ⟨d - 1, by omega⟩
    exact goR_leaf e 0 Bd Bi (by omega) (by omega)
  | succ n IH =>
    intro d hn hd Bd Bi h1 h2
    obtain ⟨e, rfl⟩ : ∃ e, d = e + 2 := ⟨d - 2, by omega⟩
    have ih : GoR (e + 1) (manyC kind n) (Bd + 3) (Bi + 1) := @IH (e + 1) (by omega) (by omega) (Bd + 3) (Bi + 1) (by omega) (by omega)
    rcases Decidable.em (kind = 1) with hk | hk
    · subst hk
      exact @rop_c e n (by omega) (by omega) Bd Bi (by omega) (by omega) ih
    · exact @rseq_c e kind n hk (by omega) (by omega) Bd Bi (by omega) (by omega) ih
end Go.Proofs
set_option linter.unusedSimpArgs false
set_option linter.unusedVariables false
set_option maxRecDepth 8000
namespace Go.Proofs
open Go Go.AL
theorem rapart_c (k : Int) (K : SV → St → Prop) (st : St) (h : K (.sc (.bool (apartB k))) st) : ACalls Tryz.prog 38 [i64 k] K st := by
  unfold apartB at h
  refine acalls_go_pure [] Tryz.func38 rfl Tryz.results38 Tryz.ntmps38 ?_
  cases b1 : (k == 10) with
  | true =>
    rw [b1] at h
    simp -implicitDefEqProofs (maxSteps := 2000000) only [↓ops_nil, ↓ops_none, ↓ops_some, ↓kd_eff, ↓dr_nil, ↓dr_cons, ↓d1_none, ↓d1_some, ↓eff_store, ↓eff_box, ↓eff_alloc, ↓eff_build, ↓eff_buildSlice, ↓eff_call, ↓eff_append, ↓eff_copy, ↓eff_clear, ↓eff_make, ↓reduceIte, ↓c_condI, ↓c_seqH, ↓c_blockH, ↓then_nH, ↓then_rH, ↓then_eH, ↓block_nH, ↓block_rH, ↓block_eH, go_sem, b1]
    exact ⟨⟨[], by simp⟩, .sc _, h⟩
  | false =>
  cases b2 : (k == 15) with
  | true =>
    rw [b1, b2] at h
    simp -implicitDefEqProofs (maxSteps := 2000000) only [↓ops_nil, ↓ops_none, ↓ops_some, ↓kd_eff, ↓dr_nil, ↓dr_cons, ↓d1_none, ↓d1_some, ↓eff_store, ↓eff_box, ↓eff_alloc, ↓eff_build, ↓eff_buildSlice, ↓eff_call, ↓eff_append, ↓eff_copy, ↓eff_clear, ↓eff_make, ↓reduceIte, ↓c_condI, ↓c_seqH, ↓c_blockH, ↓then_nH, ↓then_rH, ↓then_eH, ↓block_nH, ↓block_rH, ↓block_eH, go_sem, b1, b2]
    exact ⟨⟨[], by simp⟩, .sc _, h⟩
  | false =>
  cases b3 : (k == 11) with
  | true =>
    rw [b1, b2, b3] at h
    simp -implicitDefEqProofs (maxSteps := 2000000) only [↓ops_nil, ↓ops_none, ↓ops_some, ↓kd_eff, ↓dr_nil, ↓dr_cons, ↓d1_none, ↓d1_some, ↓eff_store, ↓eff_box, ↓eff_alloc, ↓eff_build, ↓eff_buildSlice, ↓eff_call, ↓eff_append, ↓eff_copy, ↓eff_clear, ↓eff_make, ↓reduceIte, ↓c_condI, ↓c_seqH, ↓c_blockH, ↓then_nH, ↓then_rH, ↓then_eH, ↓block_nH, ↓block_rH, ↓block_eH, go_sem, b1, b2, b3]
    exact ⟨⟨[], by simp⟩, .sc _, h⟩
  | false =>
  cases b4 : (k == 12) with
  | true =>
    rw [b1, b2, b3, b4] at h
    simp -implicitDefEqProofs (maxSteps := 2000000) only [↓ops_nil, ↓ops_none, ↓ops_some, ↓kd_eff, ↓dr_nil, ↓dr_cons, ↓d1_none, ↓d1_some, ↓eff_store, ↓eff_box, ↓eff_alloc, ↓eff_build, ↓eff_buildSlice, ↓eff_call, ↓eff_append, ↓eff_copy, ↓eff_clear, ↓eff_make, ↓reduceIte, ↓c_condI, ↓c_seqH, ↓c_blockH, ↓then_nH, ↓then_rH, ↓then_eH, ↓block_nH, ↓block_rH, ↓block_eH, go_sem, b1, b2, b3, b4]
    exact ⟨⟨[], by simp⟩, .sc _, h⟩
  | false =>
  cases b5 : (k == 13) with
  | true =>
    rw [b1, b2, b3, b4, b5] at h
    simp -implicitDefEqProofs (maxSteps := 2000000) only [↓ops_nil, ↓ops_none, ↓ops_some, ↓kd_eff, ↓dr_nil, ↓dr_cons, ↓d1_none, ↓d1_some, ↓eff_store, ↓eff_box, ↓eff_alloc, ↓eff_build, ↓eff_buildSlice, ↓eff_call, ↓eff_append, ↓eff_copy, ↓eff_clear, ↓eff_make, ↓reduceIte, ↓c_condI, ↓c_seqH, ↓c_blockH, ↓then_nH, ↓then_rH, ↓then_eH, ↓block_nH, ↓block_rH, ↓block_eH, go_sem, b1, b2, b3, b4, b5]
    exact ⟨⟨[], by simp⟩, .sc _, h⟩
  | false =>
  cases b6 : (k == 21) with
  | true =>
    rw [b1, b2, b3, b4, b5, b6] at h
    simp -implicitDefEqProofs (maxSteps := 2000000) only [↓ops_nil, ↓ops_none, ↓ops_some, ↓kd_eff, ↓dr_nil, ↓dr_cons, ↓d1_none, ↓d1_some, ↓eff_store, ↓eff_box, ↓eff_alloc, ↓eff_build, ↓eff_buildSlice, ↓eff_call, ↓eff_append, ↓eff_copy, ↓eff_clear, ↓eff_make, ↓reduceIte, ↓c_condI, ↓c_seqH, ↓c_blockH, ↓then_nH, ↓then_rH, ↓then_eH, ↓block_nH, ↓block_rH, ↓block_eH, go_sem, b1, b2, b3, b4, b5, b6]
    exact ⟨⟨[], by simp⟩, .sc _, h⟩
  | false =>
  cases b7 : (k == 19) with
  | true =>
    rw [b1, b2, b3, b4, b5, b6, b7] at h
    simp -implicitDefEqProofs (maxSteps := 2000000) only [↓ops_nil, ↓ops_none, ↓ops_some, ↓kd_eff, ↓dr_nil, ↓dr_cons, ↓d1_none, ↓d1_some, ↓eff_store, ↓eff_box, ↓eff_alloc, ↓eff_build, ↓eff_buildSlice, ↓eff_call, ↓eff_append, ↓eff_copy, ↓eff_clear, ↓eff_make, ↓reduceIte, ↓c_condI, ↓c_seqH, ↓c_blockH, ↓then_nH, ↓then_rH, ↓then_eH, ↓block_nH, ↓block_rH, ↓block_eH, go_sem, b1, b2, b3, b4, b5, b6, b7]
    exact ⟨⟨[], by simp⟩, .sc _, h⟩
  | false =>
    rw [b1, b2, b3, b4, b5, b6, b7] at h
    simp -implicitDefEqProofs (maxSteps := 2000000) only [↓ops_nil, ↓ops_none, ↓ops_some, ↓kd_eff, ↓dr_nil, ↓dr_cons, ↓d1_none, ↓d1_some, ↓eff_store, ↓eff_box, ↓eff_alloc, ↓eff_build, ↓eff_buildSlice, ↓eff_call, ↓eff_append, ↓eff_copy, ↓eff_clear, ↓eff_make, ↓reduceIte, ↓c_condI, ↓c_seqH, ↓c_blockH, ↓then_nH, ↓then_rH, ↓then_eH, ↓block_nH, ↓block_rH, ↓block_eH, go_sem, b1, b2, b3, b4, b5, b6, b7]
    exact ⟨⟨[], by simp⟩, .sc _, h⟩
set_option maxHeartbeats 4000000 in
theorem rneeds_c : ∀ (d : Nat), d ≤ 100000 → ∀ (c : Co), fitC d c → ∀ (K : SV → St → Prop) (st : St), K (i64 (needsG d c)) st → ACalls Tryz.prog 14 [coSV c] K st := by
  intro d
  induction d with
  | zero => intro _ c h; exact h.elim
  | succ d ih =>
    intro hd c hfit K st h
    have ih := ih (by omega)
    obtain ⟨⟨hb, _⟩, hk, _⟩ := hfit
    obtain ⟨ap, hap⟩ : ∃ ap, apartB c.kind = ap := ⟨_, rfl⟩
    unfold needsG at h
    rw [hap] at h
    obtain ⟨F, hF⟩ : ∃ F, needsL (needsG d) ap 0 c.kids 1 = F := ⟨_, rfl⟩
    rw [hF] at h
    have hbn : ∀ k ∈ c.kids, 1 ≤ needsG d k ∧ needsG d k ≤ 1000 * (d : Int) := fun k hk' => needs_bnd d k (hk k hk')
    refine acalls_go_pure [] Tryz.func14 rfl Tryz.results14 Tryz.ntmps14 ?_
    rw [coSV_eq]
    simp -implicitDefEqProofs (maxSteps := 2000000) only [↓ops_nil, ↓ops_none, ↓ops_some, ↓kd_eff, ↓dr_nil, ↓dr_cons, ↓d1_none, ↓d1_some, ↓eff_store, ↓eff_box, ↓eff_alloc, ↓eff_build, ↓eff_buildSlice, ↓eff_call, ↓eff_append, ↓eff_copy, ↓eff_clear, ↓eff_make, ↓reduceIte, ↓c_condI, ↓c_seqH, ↓c_blockH, ↓then_nH, ↓then_rH, ↓then_eH, ↓block_nH, ↓block_rH, ↓block_eH, go_sem]
    refine rapart_c c.kind _ _ ?_
    rw [hap]
    simp -implicitDefEqProofs (maxSteps := 2000000) only [↓ops_nil, ↓ops_none, ↓ops_some, ↓kd_eff, ↓dr_nil, ↓dr_cons, ↓d1_none, ↓d1_some, ↓eff_store, ↓eff_box, ↓eff_alloc, ↓eff_build, ↓eff_buildSlice, ↓eff_call, ↓eff_append, ↓eff_copy, ↓eff_clear, ↓eff_make, ↓reduceIte, ↓c_condI, ↓c_seqH, ↓c_blockH, ↓then_nH, ↓then_rH, ↓then_eH, ↓block_nH, ↓block_rH, ↓block_eH, go_sem]
    refine awp_rounds [] (fun b e s => ∃ k n ex, k + b = c.kids.length ∧ needsL (needsG d) ap k (c.kids.drop k) n = F ∧ 1 ≤ n ∧ n ≤ 1000 * (d : Int) + 1000 ∧ e = [.any, .ref [i64 c.kind, i64 c.number, str c.text, cosSV c.kids, i64 0, .slice .imm 1 [], .slice .imm 6 [], .slice .imm 4 [], bdsSV c.binds], .any, i64 n, .sc (.bool ap), i64 k, .any, .any, .any, .any, .any, .any, .any, .any, .any, .any, .any, .any, .any, .any, .any, .any, .any, .any, .any, .any, .any, .any, .any, .any, .any, .any, .any] ∧ s = st ++ ex) (n := c.kids.length) ?_ ⟨0, 1, [], by omega, hF, by omega, by omega, rfl, by simp⟩ ?_
    · repeat (first | exact leEnv_nil | refine leEnv_any _ ?_ | refine leEnv_same _ ?_ | refine leEnv_norm _ ?_)
    rintro b e s ⟨k, n, ex, hkb, hrest, hn1, hn2, rfl, rfl⟩
    by_cases hlt : k < c.kids.length
    · have c1 : (k : Int) < (c.kids.length : Int) := by omega
      have hw : IntKind.i64.wrap ((k : Int) + 1) = ((k + 1 : Nat) : Int) := by rw [IntWalk.i64_in _ (by omega)]; rfl
      have hgt : (c.kids.map coSV).getD k .any = coSV c.kids[k] := by simp [List.getD_eq_getElem?_getD, hlt]
      have hdr : c.kids.drop k = c.kids[k] :: c.kids.drop (k + 1) := List.drop_eq_getElem_cons hlt
      rw [hdr, needsL_cons] at hrest
      have hmem := List.getElem_mem hlt
      have hbk := hbn _ hmem
      have hfk := hk _ hmem
      generalize c.kids[k] = ck at *
      cases ap
      · simp only [Bool.false_eq_true, if_false] at hrest
        have hwa : IntKind.i64.wrap (needsG d ck + (k : Int)) = (k : Int) + needsG d ck := by rw [IntWalk.i64_in _ (by omega)]; omega
        simp -implicitDefEqProofs (maxSteps := 2000000) only [↓ops_nil, ↓ops_none, ↓ops_some, ↓kd_eff, ↓dr_nil, ↓dr_cons, ↓d1_none, ↓d1_some, ↓eff_store, ↓eff_box, ↓eff_alloc, ↓eff_build, ↓eff_buildSlice, ↓eff_call, ↓eff_append, ↓eff_copy, ↓eff_clear, ↓eff_make, ↓reduceIte, ↓c_condI, ↓c_seqH, ↓c_blockH, ↓then_nH, ↓then_rH, ↓then_eH, ↓block_nH, ↓block_rH, ↓block_eH, go_sem, c1, hgt, cosSV, List.length_map]
        refine ih ck hfk _ _ ?_
        by_cases hm : n < (k : Int) + needsG d ck
        · rw [Int.max_eq_right (by omega)] at hrest
          simp -implicitDefEqProofs (maxSteps := 2000000) only [↓ops_nil, ↓ops_none, ↓ops_some, ↓kd_eff, ↓dr_nil, ↓dr_cons, ↓d1_none, ↓d1_some, ↓eff_store, ↓eff_box, ↓eff_alloc, ↓eff_build, ↓eff_buildSlice, ↓eff_call, ↓eff_append, ↓eff_copy, ↓eff_clear, ↓eff_make, ↓reduceIte, ↓c_condI, ↓c_seqH, ↓c_blockH, ↓then_nH, ↓then_rH, ↓then_eH, ↓block_nH, ↓block_rH, ↓block_eH, go_sem, hw, hwa, hm]
          refine ⟨b - 1, [.any, .ref [i64 c.kind, i64 c.number, str c.text, cosSV c.kids, i64 0, .slice .imm 1 [], .slice .imm 6 [], .slice .imm 4 [], bdsSV c.binds], .any, i64 ((k : Int) + needsG d ck), .sc (.bool false), i64 ((k + 1 : Nat) : Int), .any, .any, .any, .any, .any, .any, .any, .any, .any, .any, .any, .any, .any, .any, .any, .any, .any, .any, .any, .any, .any, .any, .any, .any, .any, .any, .any], by omega, ?_, k + 1, _, _, by omega, hrest, by omega, by omega, rfl, rfl⟩
          simp only [cosSV]
          repeat (first | exact leEnv_nil | refine leEnv_any _ ?_ | refine leEnv_same _ ?_ | refine leEnv_norm _ ?_)
        · rw [Int.max_eq_left (by omega)] at hrest
          simp -implicitDefEqProofs (maxSteps := 2000000) only [↓ops_nil, ↓ops_none, ↓ops_some, ↓kd_eff, ↓dr_nil, ↓dr_cons, ↓d1_none, ↓d1_some, ↓eff_store, ↓eff_box, ↓eff_alloc, ↓eff_build, ↓eff_buildSlice, ↓eff_call, ↓eff_append, ↓eff_copy, ↓eff_clear, ↓eff_make, ↓reduceIte, ↓c_condI, ↓c_seqH, ↓c_blockH, ↓then_nH, ↓then_rH, ↓then_eH, ↓block_nH, ↓block_rH, ↓block_eH, go_sem, hw, hwa, hm]
          refine ⟨b - 1, [.any, .ref [i64 c.kind, i64 c.number, str c.text, cosSV c.kids, i64 0, .slice .imm 1 [], .slice .imm 6 [], .slice .imm 4 [], bdsSV c.binds], .any, i64 n, .sc (.bool false), i64 ((k + 1 : Nat) : Int), .any, .any, .any, .any, .any, .any, .any, .any, .any, .any, .any, .any, .any, .any, .any, .any, .any, .any, .any, .any, .any, .any, .any, .any, .any, .any, .any], by omega, ?_, k + 1, _, _, by omega, hrest, by omega, by omega, rfl, rfl⟩
          simp only [cosSV]
          repeat (first | exact leEnv_nil | refine leEnv_any _ ?_ | refine leEnv_same _ ?_ | refine leEnv_norm _ ?_)
      · simp only [if_true, Int.zero_add] at hrest
        simp -implicitDefEqProofs (maxSteps := 2000000) only [↓ops_nil, ↓ops_none, ↓ops_some, ↓kd_eff, ↓dr_nil, ↓dr_cons, ↓d1_none, ↓d1_some, ↓eff_store, ↓eff_box, ↓eff_alloc, ↓eff_build, ↓eff_buildSlice, ↓eff_call, ↓eff_append, ↓eff_copy, ↓eff_clear, ↓eff_make, ↓reduceIte, ↓c_condI, ↓c_seqH, ↓c_blockH, ↓then_nH, ↓then_rH, ↓then_eH, ↓block_nH, ↓block_rH, ↓block_eH, go_sem, c1, hgt, cosSV, List.length_map]
        refine ih ck hfk _ _ ?_
        by_cases hm : n < needsG d ck
        · rw [Int.max_eq_right (by omega)] at hrest
          simp -implicitDefEqProofs (maxSteps := 2000000) only [↓ops_nil, ↓ops_none, ↓ops_some, ↓kd_eff, ↓dr_nil, ↓dr_cons, ↓d1_none, ↓d1_some, ↓eff_store, ↓eff_box, ↓eff_alloc, ↓eff_build, ↓eff_buildSlice, ↓eff_call, ↓eff_append, ↓eff_copy, ↓eff_clear, ↓eff_make, ↓reduceIte, ↓c_condI, ↓c_seqH, ↓c_blockH, ↓then_nH, ↓then_rH, ↓then_eH, ↓block_nH, ↓block_rH, ↓block_eH, go_sem, hw, hm]
          refine ⟨b - 1, [.any, .ref [i64 c.kind, i64 c.number, str c.text, cosSV c.kids, i64 0, .slice .imm 1 [], .slice .imm 6 [], .slice .imm 4 [], bdsSV c.binds], .any, i64 (needsG d ck), .sc (.bool true), i64 ((k + 1 : Nat) : Int), .any, .any, .any, .any, .any, .any, .any, .any, .any, .any, .any, .any, .any, .any, .any, .any, .any, .any, .any, .any, .any, .any, .any, .any, .any, .any, .any], by omega, ?_, k + 1, _, _, by omega, hrest, by omega, by omega, rfl, rfl⟩
          simp only [cosSV]
          repeat (first | exact leEnv_nil | refine leEnv_any _ ?_ | refine leEnv_same _ ?_ | refine leEnv_norm _ ?_)
        · rw [Int.max_eq_left (by omega)] at hrest
          simp -implicitDefEqProofs (maxSteps := 2000000) only [↓ops_nil, ↓ops_none, ↓ops_some, ↓kd_eff, ↓dr_nil, ↓dr_cons, ↓d1_none, ↓d1_some, ↓eff_store, ↓eff_box, ↓eff_alloc, ↓eff_build, ↓eff_buildSlice, ↓eff_call, ↓eff_append, ↓eff_copy, ↓eff_clear, ↓eff_make, ↓reduceIte, ↓c_condI, ↓c_seqH, ↓c_blockH, ↓then_nH, ↓then_rH, ↓then_eH, ↓block_nH, ↓block_rH, ↓block_eH, go_sem, hw, hm]
          refine ⟨b - 1, [.any, .ref [i64 c.kind, i64 c.number, str c.text, cosSV c.kids, i64 0, .slice .imm 1 [], .slice .imm 6 [], .slice .imm 4 [], bdsSV c.binds], .any, i64 n, .sc (.bool true), i64 ((k + 1 : Nat) : Int), .any, .any, .any, .any, .any, .any, .any, .any, .any, .any, .any, .any, .any, .any, .any, .any, .any, .any, .any, .any, .any, .any, .any, .any, .any, .any, .any], by omega, ?_, k + 1, _, _, by omega, hrest, by omega, by omega, rfl, rfl⟩
          simp only [cosSV]
          repeat (first | exact leEnv_nil | refine leEnv_any _ ?_ | refine leEnv_same _ ?_ | refine leEnv_norm _ ?_)
    · obtain rfl : k = c.kids.length := by omega
      have c1 : ¬ ((c.kids.length : Int) < (c.kids.length : Int)) := by omega
      have e : n = F := by
        rw [List.drop_length] at hrest; exact hrest
      rw [← e] at h
      simp -implicitDefEqProofs (maxSteps := 2000000) only [↓ops_nil, ↓ops_none, ↓ops_some, ↓kd_eff, ↓dr_nil, ↓dr_cons, ↓d1_none, ↓d1_some, ↓eff_store, ↓eff_box, ↓eff_alloc, ↓eff_build, ↓eff_buildSlice, ↓eff_call, ↓eff_append, ↓eff_copy, ↓eff_clear, ↓eff_make, ↓reduceIte, ↓c_condI, ↓c_seqH, ↓c_blockH, ↓then_nH, ↓then_rH, ↓then_eH, ↓block_nH, ↓block_rH, ↓block_eH, go_sem, c1, cosSV, List.length_map]
      exact ⟨⟨_, rfl⟩, .sc _, h⟩
theorem rneedsA (D : Nat) (hD : D ≤ 100000) (c : Co) (hf : fitC D c) (K : SV → St → Prop) (st : St) (h : K (i64 (needsG D c)) st) : ACalls Tryz.prog 14 [.agg [i64 c.kind, i64 c.number, str c.text, cosSV c.kids, i64 0, .slice .imm 1 [], .slice .imm 6 [], .slice .imm 4 [], bdsSV c.binds]] K st := by
  rw [← coSV_eq]
  exact rneeds_c D hD c hf K st h
end Go.Proofs
