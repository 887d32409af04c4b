/- The document's walk (selvageref14): Walk. -/
import Derived.Test.YtammbegfobhflaaGreatW42
import Derived.Test.YtammbegfobhflaaGreatW24
set_option linter.all false
set_option linter.unusedSimpArgs false
set_option linter.unusedVariables false
set_option maxRecDepth 8000
namespace Go.AL
theorem hand_mem {all a : List (Option Sta)} {stack : Int} {t : Int × Sta} (h : handF all stack t = some a) : a.length = all.length ∧ ∀ p s, a.getD p none = some s → all.getD p none = some s ∨ t.2 = s := by
  have key : a = all.set t.1.toNat (some t.2) := by
    unfold handF at h
    split at h
    · cases h
    · split at h
      · cases h; rfl
      · split at h
        · cases h; rfl
        · cases h
  subst key
  refine ⟨by simp, fun p s hs => ?_⟩
  rw [getD_setO] at hs
  split at hs
  · cases hs; exact .inr rfl
  · exact .inl hs
theorem handL_mem {stack : Int} : ∀ (m : List (Int × Sta)) (all a : List (Option Sta)), handL stack all m = some a → a.length = all.length ∧ ∀ p s, a.getD p none = some s → all.getD p none = some s ∨ ∃ t ∈ m, t.2 = s
  | [], all, a, h => by cases h; exact ⟨rfl, fun p s hs => .inl hs⟩
  | t :: r, all, a, h => by
    unfold handL at h
    cases e : handF all stack t with
    | none => rw [e] at h; cases h
    | some a1 =>
      rw [e] at h
      obtain ⟨l1, h1⟩ := hand_mem e
      obtain ⟨l2, h2⟩ := handL_mem r a1 a h
      refine ⟨l2.trans l1, fun p s hs => ?_⟩
      rcases h2 p s hs with h3 | ⟨u, hu, e3⟩
      · rcases h1 p s h3 with h4 | h4
        · exact .inl h4
        · exact .inr ⟨t, List.mem_cons_self, h4⟩
      · exact .inr ⟨u, List.mem_cons_of_mem _ hu, e3⟩
/-- All states that are told are small. -/
def GoodA (k : Nat) (all : List (Option Sta)) : Prop := ∀ p s, all.getD p none = some s → GoodS k s
theorem step_good {c : Cd} {n p k : Nat} {all a : List (Option Sta)} (hb : bodyB (c.funs.getD n default) = true) (h : stepR c n p all = some a) (hg : GoodA k all) (hp : (all.getD p none).isSome = true) : GoodA (k + 1) a ∧ a.length = all.length := by
  unfold stepR at h
  simp only at h
  obtain ⟨s, hs⟩ := Option.isSome_iff_exists.1 hp
  rw [hs, Option.getD_some] at h
  have hsg := hg p s hs
  cases e : nextF c n p s with
  | none => rw [e] at h; cases h
  | some m =>
    rw [e] at h
    simp only at h
    by_cases hd : (c.funs.getD n default).stack < s.depth
    · rw [if_pos hd] at h; cases h
    rw [if_neg hd] at h
    have hb2 := hb
    unfold bodyB at hb2
    simp only [Bool.and_eq_true] at hb2
    have hst := (inB_le hb2.2.2.1).2
    have hbb := instr_b hb2.2.2.2.2 p
    have hgo := go_good hsg (by omega) hbb e
    obtain ⟨l1, h1⟩ := handL_mem _ _ _ h
    refine ⟨fun q u hu => ?_, l1⟩
    rcases h1 q u hu with h2 | ⟨t, ht, rfl⟩
    · exact (hg q u h2).mono (by omega)
    · exact hgo t (List.mem_reverse.1 ht)
theorem find_range {p : Nat → Bool} {n k : Nat} (hk : k < n) (h : ∀ j, j < k → p j = false) (hp : p k = true) : (List.range n).find? p = some k := by
  rw [List.find?_range_eq_some]
  exact ⟨hp, by simpa using hk, fun j hj => by simp [h j hj]⟩
theorem find_none {p : Nat → Bool} {n : Nat} (h : ∀ j, j < n → p j = false) : (List.range n).find? p = none := by
  rw [List.find?_eq_none]
  intro x hx
  rw [h x (List.mem_range.1 hx)]
  exact Bool.false_ne_true
end Go.AL
namespace Go.AL
/-- The document's walk's state. -/
structure WrI (c : Cd) (n : Nat) (f : Bd) (st : St) (F : Option (List (Option Sta))) (N b : Nat) (rs : List RS) (done : List Bool) (s : St) : Prop where
  walk : walkR c n b (rs.map RS.abs) done = F
  fuel : falses done < b
  bN : b ≤ N
  len : rs.length = f.code.length
  dlen : done.length = f.code.length
  fine : FineL rs
  good : GoodA (N - b) (rs.map RS.abs)
  fo : s[st.length]? = some (.cells [i64 f.kept, i64 f.locals, i64 f.stack, insSV f.code])
  ao : s[st.length + 1]? = some (.cells (rsL rs))
  dob : s[st.length + 2]? = some (.cells (done.map fun b => SV.sc (.bool b)))
  ex : ∃ ex, s = st ++ ex
theorem falses_rep : ∀ n : Nat, falses (List.replicate n false) = n
  | 0 => rfl
  | n + 1 => by
    have := falses_rep n
    unfold falses at this ⊢
    rw [List.replicate_succ, List.countP_cons]
    simp [this]
end Go.AL
namespace Go.Proofs
open Go Go.AL
theorem zero_rs : ∀ n : Nat, zeroL (zerosOf Tryz.prog 94) n = rsL (List.replicate n ⟨false, 0, .full, 0, []⟩)
  | 0 => rfl
  | n + 1 => by
    show zerosOf Tryz.prog 94 ++ zeroL (zerosOf Tryz.prog 94) n = _
    rw [zero_rs n, List.replicate_succ]
    have : zerosOf Tryz.prog 94 = [.sc (.bool false), i64 0, .slice .full 0 []] := by simp only [zerosOf, Tryz.aelem94, Option.bind_some, Tryz.azero125, Option.getD_some]
    rw [this]; rfl
theorem zero_bs : ∀ n : Nat, zeroL (zerosOf Tryz.prog 126) n = (List.replicate n false).map fun b => SV.sc (.bool b)
  | 0 => rfl
  | n + 1 => by
    show zerosOf Tryz.prog 126 ++ zeroL (zerosOf Tryz.prog 126) n = _
    rw [zero_bs n, List.replicate_succ]
    have : zerosOf Tryz.prog 126 = [.sc (.bool false)] := by simp only [zerosOf, Tryz.aelem126, Option.bind_some, Tryz.azero4, Option.getD_some]
    rw [this]; rfl
theorem step_l {L : Nat} {m1 m2 m3 : AL.Mode} {z1 z2 z3 : Nat} (c : Cd) (hz : CdZ m1 m2 m3 z1 z2 z3 c) (n : Nat) (hn : n < c.funs.length) {f : Bd} (hf : c.funs.getD n default = f) (hbd : bodyB f = true) {st : St} {aid : Nat} {rs : List RS} (hL : rs.length = L)
    (hA : st[aid]? = some (.cells (rsL rs))) (hok : FineL rs) (hlen : rs.length = f.code.length) {p : Nat} (hp : p < f.code.length) {r : RS} (hr : rs[p]? = some r) (his : r.is = true) {k : Nat} (hgs : GoodS k ⟨r.depth, r.marks⟩) (hk : k ≤ 90000) {R : Option (List (Option Sta))}
    (hR : stepR c n p (rs.map RS.abs) = R) (K : SV → St → Prop) (h0 : R = none → ∀ rs', FineL rs' → K (.sc (.bool false)) (st.set aid (.cells (rsL rs'))))
    (h1 : ∀ a rs', R = some a → FineL rs' → rs'.length = rs.length → rs'.map RS.abs = a → K (.sc (.bool true)) (st.set aid (.cells (rsL rs')))) :
    ACalls Tryz.prog 65 [.agg (cdCells m1 m2 m3 z1 z2 z3 c), i64 n, i64 p, .slc aid 3 0 L L] K st := by
  subst hL
  exact step_c c hz n hn hf hbd hA hok hlen hp hr his hgs hk hR K h0 h1
set_option maxHeartbeats 8000000 in
theorem rwalk_c {m1 m2 m3 : AL.Mode} {z1 z2 z3 : Nat} (c : Cd) (hz : CdZ m1 m2 m3 z1 z2 z3 c) (n : Nat) (hn : n < c.funs.length) {f : Bd} (hf : c.funs.getD n default = f) (hbd : bodyB f = true) (K : SV → St → Prop) (st : St)
    (h : K (.tuple [.any, .sc (.bool (walkRF c n).isSome)]) st) : ACalls Tryz.prog 40 [.agg (cdCells m1 m2 m3 z1 z2 z3 c), i64 n] K st := by
  have hzz := hz.f (fun e => by rw [e] at hn; exact absurd hn (by simp))
  subst hzz
  obtain ⟨F, hF⟩ : ∃ F, walkRF c n = F := ⟨_, rfl⟩
  rw [hF] at h
  have c1 : (n : Int) < (c.funs.length : Int) := by omega
  have hg := at_mapE bdSV default (l := c.funs) (k := n) hn
  rw [hf] at hg
  have hbody := hbd
  unfold bodyB at hbody
  simp only [Bool.and_eq_true] at hbody
  obtain ⟨_, _, hstk, hlen, hins⟩ := hbody
  have hlen := inB_le hlen
  have l1 : (f.code.length : Int) ≤ 4611686018427387904 := by omega
  have l2 : f.code.length * 40 ≤ 281474976710656 := by omega
  have l3 : f.code.length * 1 ≤ 281474976710656 := by omega
  have l4 : (0 : Int) < (f.code.length : Int) := by omega
  have hz0 := rs_put (rs := List.replicate f.code.length ⟨false, 0, .full, 0, []⟩) (p := 0) (by simp; omega) ⟨true, 0, .full, 0, []⟩
  refine acalls_goB [] Tryz.func40 rfl Tryz.results40 Tryz.ntmps40 ?_
  simp -implicitDefEqProofs (maxSteps := 2000000) only [↓ops_nil, ↓ops_none, ↓ops_some, ↓kd_eff, ↓dr_nil, ↓dr_cons, ↓d1_none, ↓d1_some, ↓eff_store, ↓eff_box, ↓eff_alloc, ↓eff_build, ↓eff_buildSlice, ↓eff_call, ↓eff_append, ↓eff_copy, ↓eff_clear, ↓eff_make, ↓reduceIte, ↓c_condI, ↓c_seqH, ↓c_blockH, ↓then_nH, ↓then_rH, ↓then_eH, ↓block_nH, ↓block_rH, ↓block_eH, go_sem, cdCells, bdSV, insSV, List.length_map, c1, hg, l1, l2, l3, l4]
  have l5 : 3 ≤ (zeroL (zerosOf Tryz.prog 94) f.code.length).length := by rw [zero_rs, rsL_len]; simp; omega
  refine ⟨l5, ?_⟩
  have hrs0 : (SV.sc (Value.bool true) :: i64 0 :: SV.slice Mode.full 0 [] :: List.drop 3 (zeroL (zerosOf Tryz.prog 94) f.code.length)) = rsL ((List.replicate f.code.length ⟨false, 0, .full, 0, []⟩).set 0 ⟨true, 0, .full, 0, []⟩) := by
    rw [← hz0, zero_rs]; rfl
  have hds0 : zeroL (zerosOf Tryz.prog 126) f.code.length = (List.replicate f.code.length false).map fun b => SV.sc (.bool b) := zero_bs _
  refine awp_rounds [] (fun b e s => ∃ rs done, WrI c n f st F (f.code.length + 1) b rs done s ∧ e = [.any, i64 n, .ref (cdCells m1 m2 m3 4 z2 z3 c), .any, .any, .any, .ptr st.length 0, .slc (st.length + 1) 3 0 f.code.length f.code.length, .slc (st.length + 2) 1 0 f.code.length f.code.length, .any, .any, .any, .any, .any, .any, .any, .any, .any, .any, .any, .any, .any, .any, .any, .any, .any, .any, .any, .any, .any, .any, .any, .any, .any, .any, .any, .any, .any, .any, .any, .any, .any, .any, .any, .any, .any, .any, .any, .any, .any, .any, .any, .any, .any, .any, .any, .any, .any, .any, .any, .any, .any, .any, .any]) (n := f.code.length + 1) ?_
    ⟨(List.replicate f.code.length ⟨false, 0, .full, 0, []⟩).set 0 ⟨true, 0, .full, 0, []⟩, List.replicate f.code.length false, ?_, rfl⟩ ?_
  · simp only [cdCells]
    repeat (first | exact leEnv_nil | refine leEnv_any _ ?_ | refine leEnv_same _ ?_ | refine leEnv_norm _ ?_)
  · unfold walkRF lenF at hF
    rw [hf] at hF
    refine ⟨?_, ?_, Nat.le_refl _, by simp, by simp, ?_, ?_, by simp [insSV], ?_, ?_, ⟨_, rfl⟩⟩
    · rw [← hF]
      congr 1
      rw [List.map_set, List.map_replicate]
      rfl
    · rw [falses_rep]; omega
    · refine FineL.set (fun r hr => ?_) ⟨⟨fun h => absurd rfl h, .inr rfl⟩, by simp⟩
      rw [List.eq_of_mem_replicate hr]
      exact ⟨⟨fun h => absurd rfl h, .inr rfl⟩, by simp⟩
    · intro p s hs
      rw [List.map_set, List.map_replicate, getD_setO] at hs
      split at hs
      · cases hs; exact ⟨by simp, by simp, by simp, by simp⟩
      · have := rep_none (n := f.code.length) (p := p)
        rw [show RS.abs ⟨false, 0, .full, 0, []⟩ = none from rfl, this] at hs
        cases hs
    · rw [← hrs0]; simp
    · rw [← hds0]; simp
  rintro b e s ⟨rs, done, I, rfl⟩
  obtain ⟨i1, i2, i3, i4, i5, i6, i7, i8, i9, i10, i11⟩ := id I
  obtain ⟨b, rfl⟩ : ∃ b', b = b' + 1 := ⟨b - 1, by omega⟩
  have q8 := cells_facts i8
  have q9 := cells_facts i9
  have q10 := cells_facts i10
  have fin : ∀ (B : Bool) (X : SV) (s' : St), F.isSome = B → (∃ ex, s' = st ++ ex) → FinB st K (.tuple [X, .sc (.bool B)]) s' := fun B X s' e hex => ⟨X, B, rfl, hex, by rw [e] at h; exact h⟩
  unfold walkR at i1
  simp only [List.length_map, i4] at i1
  simp -implicitDefEqProofs (maxSteps := 2000000) only [↓ops_nil, ↓ops_none, ↓ops_some, ↓kd_eff, ↓dr_nil, ↓dr_cons, ↓d1_none, ↓d1_some, ↓eff_store, ↓eff_box, ↓eff_alloc, ↓eff_build, ↓eff_buildSlice, ↓eff_call, ↓eff_append, ↓eff_copy, ↓eff_clear, ↓eff_make, ↓reduceIte, ↓c_condI, ↓c_seqH, ↓c_blockH, ↓then_nH, ↓then_rH, ↓then_eH, ↓block_nH, ↓block_rH, ↓block_eH, go_sem]
  refine awp_rounds [] (fun q e s' => ∃ k, k + q = f.code.length ∧ (∀ j, j < k → openR (rs.map RS.abs) done j = false) ∧ e = [.any, i64 n, .ref (cdCells m1 m2 m3 4 z2 z3 c), .any, .any, .any, .ptr st.length 0, .slc (st.length + 1) 3 0 f.code.length f.code.length, .slc (st.length + 2) 1 0 f.code.length f.code.length, i64 k, .any, .any, .any, .any, .any, .any, .any, .any, .any, .any, .any, .any, .any, .any, .any, .any, .any, .any, .any, .any, .any, .any, .any, .any, .any, .any, .any, .any, .any, .any, .any, .any, .any, .any, .any, .any, .any, .any, .any, .any, .any, .any, .any, .any, .any, .any, .any, .any, .any, .any, .any, .any, .any, .any] ∧ s' = s) (n := f.code.length) ?_ ⟨0, by omega, fun j hj => by omega, rfl, rfl⟩ ?_
  · repeat (first | exact leEnv_nil | refine leEnv_any _ ?_ | refine leEnv_same _ ?_ | refine leEnv_norm _ ?_)
  rintro q e s' ⟨k, hk, hall, rfl, rfl⟩
  by_cases hlt : k < f.code.length
  · have d1 : (k : Int) < (f.code.length : Int) := by omega
    have d2 : (k : Int) < (rs.length : Int) := by omega
    have be : ((k : Int) == (f.code.length : Int)) = false := by simp; omega
    have hwk : IntKind.i64.wrap ((k : Int) + 1) = ((k + 1 : Nat) : Int) := by rw [IntWalk.i64_in _ (by omega)]; rfl
    have hkr : k < rs.length := by omega
    have hkd : k < done.length := by omega
    have hdr := rs_at hkr
    have hr : rs[k]? = some rs[k] := by simp [hkr]
    have hin := List.getElem_mem hkr
    generalize rs[k] = r at *
    have hcell : cellsOf Tryz.prog 4 ((done.map fun b => SV.sc (.bool b)).drop k) = some (.sc (.bool (done.getD k false))) := by
      have : 0 < ((done.map fun b => SV.sc (.bool b)).drop k).length := by rw [List.length_drop, List.length_map]; omega
      simp only [cellsOf, Tryz.aagg4, this, if_true]
      simp [List.getD_eq_getElem?_getD, hkd]
    have habs : (rs.map RS.abs).getD k none = r.abs := by simp [List.getD_eq_getElem?_getD, hr]
    have hopen : openR (rs.map RS.abs) done k = (!done.getD k false && r.is) := by
      unfold openR RS.abs at *
      rw [habs]
      cases r.is <;> rfl
    obtain ⟨B, hB⟩ : ∃ B, done.getD k false = B := ⟨_, rfl⟩
    rw [hB] at hcell hopen
    cases B with
    | true =>
      simp -implicitDefEqProofs (maxSteps := 2000000) only [↓ops_nil, ↓ops_none, ↓ops_some, ↓kd_eff, ↓dr_nil, ↓dr_cons, ↓d1_none, ↓d1_some, ↓eff_store, ↓eff_box, ↓eff_alloc, ↓eff_build, ↓eff_buildSlice, ↓eff_call, ↓eff_append, ↓eff_copy, ↓eff_clear, ↓eff_make, ↓reduceIte, ↓c_condI, ↓c_seqH, ↓c_blockH, ↓then_nH, ↓then_rH, ↓then_eH, ↓block_nH, ↓block_rH, ↓block_eH, go_sem, q8.1, q8.2.1, q8.2.2, insSV, List.length_map, d1, d2, q9.1, q9.2.1, q9.2.2, q10.1, q10.2.1, q10.2.2, Nat.mul_one, hcell, hwk]
      refine ⟨q - 1, _, by omega, ?_, k + 1, by omega, lt_step hall hopen, rfl⟩
      repeat (first | exact leEnv_nil | refine leEnv_any _ ?_ | refine leEnv_same _ ?_ | refine leEnv_norm _ ?_)
    | false =>
      cases e1 : r.is with
      | false =>
        simp -implicitDefEqProofs (maxSteps := 2000000) only [↓ops_nil, ↓ops_none, ↓ops_some, ↓kd_eff, ↓dr_nil, ↓dr_cons, ↓d1_none, ↓d1_some, ↓eff_store, ↓eff_box, ↓eff_alloc, ↓eff_build, ↓eff_buildSlice, ↓eff_call, ↓eff_append, ↓eff_copy, ↓eff_clear, ↓eff_make, ↓reduceIte, ↓c_condI, ↓c_seqH, ↓c_blockH, ↓then_nH, ↓then_rH, ↓then_eH, ↓block_nH, ↓block_rH, ↓block_eH, go_sem, q8.1, q8.2.1, q8.2.2, insSV, List.length_map, d1, d2, q9.1, q9.2.1, q9.2.2, q10.1, q10.2.1, q10.2.2, Nat.mul_one, hcell, hdr, e1, hwk]
        refine ⟨q - 1, _, by omega, ?_, k + 1, by omega, lt_step hall (by rw [hopen, e1]; rfl), rfl⟩
        repeat (first | exact leEnv_nil | refine leEnv_any _ ?_ | refine leEnv_same _ ?_ | refine leEnv_norm _ ?_)
      | true =>
        have hfound := find_range hlt hall (by rw [hopen, e1]; rfl)
        rw [hfound] at i1
        simp only at i1
        have hput : (done.map fun b => SV.sc (.bool b)).take k ++ SV.sc (.bool true) :: (done.map fun b => SV.sc (.bool b)).drop (k + 1) = (done.set k true).map fun b => SV.sc (.bool b) := by
          rw [List.map_set, List.set_eq_take_append_cons_drop, if_pos (by simpa using hkd)]
        have hk1 : k + 1 ≤ (done.map fun b => SV.sc (.bool b)).length := by simp; omega
        have hk1' : k + 1 ≤ done.length := by omega
        obtain ⟨S2, hS2⟩ : ∃ S2, s'.set (st.length + 2) (.cells ((done.set k true).map fun b => SV.sc (.bool b))) = S2 := ⟨_, rfl⟩
        have hl10 := lt_of_get i10
        have u9 : S2[st.length + 1]? = some (.cells (rsL rs)) := by rw [← hS2, set_get_ne (by omega)]; exact i9
        have u8 : S2[st.length]? = some (.cells [i64 f.kept, i64 f.locals, i64 f.stack, insSV f.code]) := by rw [← hS2, set_get_ne (by omega)]; exact i8
        have u10 : S2[st.length + 2]? = some (.cells ((done.set k true).map fun b => SV.sc (.bool b))) := by rw [← hS2, set_get hl10]
        have u11 : ∃ ex, S2 = st ++ ex := by rw [← hS2]; exact ex_set i11 (by omega) _
        simp -implicitDefEqProofs (maxSteps := 2000000) only [↓ops_nil, ↓ops_none, ↓ops_some, ↓kd_eff, ↓dr_nil, ↓dr_cons, ↓d1_none, ↓d1_some, ↓eff_store, ↓eff_box, ↓eff_alloc, ↓eff_build, ↓eff_buildSlice, ↓eff_call, ↓eff_append, ↓eff_copy, ↓eff_clear, ↓eff_make, ↓reduceIte, ↓c_condI, ↓c_seqH, ↓c_blockH, ↓then_nH, ↓then_rH, ↓then_eH, ↓block_nH, ↓block_rH, ↓block_eH, go_sem, q8.1, q8.2.1, q8.2.2, insSV, List.length_map, d1, d2, q9.1, q9.2.1, q9.2.2, q10.1, q10.2.1, q10.2.2, Nat.mul_one, hcell, hdr, e1, be, hput, hk1, hk1', hS2, cdCells]
        have hra : r.abs = some ⟨r.depth, r.marks⟩ := by unfold RS.abs; rw [if_pos e1]
        have hgs := i7 k ⟨r.depth, r.marks⟩ (habs.trans hra)
        obtain ⟨R, hR⟩ : ∃ R, stepR c n k (rs.map RS.abs) = R := ⟨_, rfl⟩
        rw [hR] at i1
        refine step_l c hz n hn hf hbd i4 u9 i6 i4 hlt hr e1 hgs (by omega) hR _ (fun e rs' hf' => ?_) (fun a rs' e hf' hl' ha => ?_)
        · rw [e] at i1
          have hF1 : F.isSome = false := by rw [← i1]; rfl
          simp -implicitDefEqProofs (maxSteps := 2000000) only [↓ops_nil, ↓ops_none, ↓ops_some, ↓kd_eff, ↓dr_nil, ↓dr_cons, ↓d1_none, ↓d1_some, ↓eff_store, ↓eff_box, ↓eff_alloc, ↓eff_build, ↓eff_buildSlice, ↓eff_call, ↓eff_append, ↓eff_copy, ↓eff_clear, ↓eff_make, ↓reduceIte, ↓c_condI, ↓c_seqH, ↓c_blockH, ↓then_nH, ↓then_rH, ↓then_eH, ↓block_nH, ↓block_rH, ↓block_eH, go_sem]
          exact fin _ _ _ hF1 (ex_set u11 (by omega) _)
        · rw [e] at i1 hR
          obtain ⟨hg1, _⟩ := step_good (by rw [hf]; exact hbd) hR i7 (by rw [habs, hra]; rfl)
          have hfs := falses_set hkd hB
          have hl9 := lt_of_get u9
          simp -implicitDefEqProofs (maxSteps := 2000000) only [↓ops_nil, ↓ops_none, ↓ops_some, ↓kd_eff, ↓dr_nil, ↓dr_cons, ↓d1_none, ↓d1_some, ↓eff_store, ↓eff_box, ↓eff_alloc, ↓eff_build, ↓eff_buildSlice, ↓eff_call, ↓eff_append, ↓eff_copy, ↓eff_clear, ↓eff_make, ↓reduceIte, ↓c_condI, ↓c_seqH, ↓c_blockH, ↓then_nH, ↓then_rH, ↓then_eH, ↓block_nH, ↓block_rH, ↓block_eH, go_sem]
          refine ⟨b, [.any, i64 n, .ref (cdCells m1 m2 m3 4 z2 z3 c), .any, .any, .any, .ptr st.length 0, .slc (st.length + 1) 3 0 f.code.length f.code.length, .slc (st.length + 2) 1 0 f.code.length f.code.length, .any, .any, .any, .any, .any, .any, .any, .any, .any, .any, .any, .any, .any, .any, .any, .any, .any, .any, .any, .any, .any, .any, .any, .any, .any, .any, .any, .any, .any, .any, .any, .any, .any, .any, .any, .any, .any, .any, .any, .any, .any, .any, .any, .any, .any, .any, .any, .any, .any, .any, .any, .any, .any, .any, .any], by omega, ?_, rs', done.set k true, ?_, rfl⟩
          · simp only [cdCells]
            repeat (first | exact leEnv_nil | refine leEnv_any _ ?_ | refine leEnv_same _ ?_ | refine leEnv_norm _ ?_)
          refine ⟨by rw [ha]; exact i1, by omega, by omega, hl'.trans i4, by simp [i5], hf', ?_, by rw [set_get_ne (by omega)]; exact u8, by rw [set_get hl9], by rw [set_get_ne (by omega)]; exact u10, ex_set u11 (by omega) _⟩
          rw [ha]
          rw [show f.code.length + 1 - b = f.code.length + 1 - (b + 1) + 1 by omega]
          exact hg1
  · obtain rfl : k = f.code.length := by omega
    have d1 : ¬ (f.code.length : Int) < (f.code.length : Int) := by omega
    have be : ((f.code.length : Int) == (f.code.length : Int)) = true := by simp
    rw [find_none hall] at i1
    have hF1 : F.isSome = true := by rw [← i1]; rfl
    simp -implicitDefEqProofs (maxSteps := 2000000) only [↓ops_nil, ↓ops_none, ↓ops_some, ↓kd_eff, ↓dr_nil, ↓dr_cons, ↓d1_none, ↓d1_some, ↓eff_store, ↓eff_box, ↓eff_alloc, ↓eff_build, ↓eff_buildSlice, ↓eff_call, ↓eff_append, ↓eff_copy, ↓eff_clear, ↓eff_make, ↓reduceIte, ↓c_condI, ↓c_seqH, ↓c_blockH, ↓then_nH, ↓then_rH, ↓then_eH, ↓block_nH, ↓block_rH, ↓block_eH, go_sem, q8.1, q8.2.1, q8.2.2, insSV, List.length_map, d1, be]
    exact fin _ _ _ hF1 i11
end Go.Proofs
