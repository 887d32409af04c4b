/- The law's own function cut. -/
import Derived.Test.YtammbegfobhflaaM9
set_option linter.all false
set_option linter.unusedSimpArgs false
set_option linter.unusedVariables false
set_option maxRecDepth 8000
namespace Go.AL
/-- A core as it comes in: with any tree. -/
inductive CI where
  | mk (kind number : Int) (text : ByteArray) (row : Int) (path : List Int) (cs rs : List SV) (kids : List CI) (binds : List (List Bn))
namespace CI
def kind : CI → Int | mk k _ _ _ _ _ _ _ _ => k
def number : CI → Int | mk _ n _ _ _ _ _ _ _ => n
def text : CI → ByteArray | mk _ _ t _ _ _ _ _ _ => t
def row : CI → Int | mk _ _ _ r _ _ _ _ _ => r
def path : CI → List Int | mk _ _ _ _ p _ _ _ _ => p
def cs : CI → List SV | mk _ _ _ _ _ c _ _ _ => c
def rs : CI → List SV | mk _ _ _ _ _ _ r _ _ => r
def kids : CI → List CI | mk _ _ _ _ _ _ _ ks _ => ks
def binds : CI → List (List Bn) | mk _ _ _ _ _ _ _ _ b => b
end CI
mutual
def ciSV : CI → SV
  | .mk k n t r p cs rs ks bs => .agg [i64 k, i64 n, str t, .slice .imm 9 (ciL ks), i64 r, .slice .imm 1 (p.map i64), .slice .imm 6 cs, .slice .imm 4 rs, bdsSV bs]
def ciL : List CI → List SV
  | [] => []
  | c :: r => ciSV c :: ciL r
end
theorem ciL_eq (l : List CI) : ciL l = l.map ciSV := by
  induction l with
  | nil => rfl
  | cons n r ih => simp [ciL, ih]
theorem ciSV_eq (c : CI) : ciSV c = .agg [i64 c.kind, i64 c.number, str c.text, .slice .imm 9 (c.kids.map ciSV), i64 c.row, .slice .imm 1 (c.path.map i64), .slice .imm 6 c.cs, .slice .imm 4 c.rs, .slice .imm 1 (c.binds.map bnsSV)] := by
  cases c; simp [ciSV, ciL_eq, bdsSV, CI.kind, CI.number, CI.text, CI.row, CI.path, CI.cs, CI.rs, CI.kids, CI.binds]
theorem cells_ci (c : CI) : (ciSV c).cells = [i64 c.kind, i64 c.number, str c.text, .slice .imm 9 (c.kids.map ciSV), i64 c.row, .slice .imm 1 (c.path.map i64), .slice .imm 6 c.cs, .slice .imm 4 c.rs, .slice .imm 1 (c.binds.map bnsSV)] := by rw [ciSV_eq]; rfl
def cutI : Nat → CI → Co
  | 0, c => .mk c.kind c.number (cutT c.text) [] (cutBs c.binds)
  | d + 1, c => .mk c.kind c.number (cutT c.text) ((c.kids.take 4).map (cutI d)) (cutBs c.binds)
def cutKs : Nat → CI → List Co
  | 0, _ => []
  | d + 1, c => (c.kids.take 4).map (cutI d)
theorem cutI_eq (d : Nat) (c : CI) : cutI d c = .mk c.kind c.number (cutT c.text) (cutKs d c) (cutBs c.binds) := by cases d <;> rfl
theorem fit_cutI : ∀ (d : Nat) (c : CI), fitC (d + 2) (cutI d c)
  | d, c => by
    rw [cutI_eq]
    refine ⟨⟨?_, ?_, ?_⟩, ?_, fun _ => by omega⟩
    · show (cutKs d c).length ≤ 1000
      cases d <;> simp [cutKs]; omega
    · show (cutBs c.binds).length ≤ 1000
      simp [cutBs]; omega
    · intro l hl
      obtain ⟨r, _, rfl⟩ := List.mem_map.1 (show l ∈ cutBs c.binds from hl)
      refine ⟨by simp; omega, fun b hb => ?_⟩
      obtain ⟨x, _, rfl⟩ := List.mem_map.1 hb
      simp [cutB]; omega
    · intro k hk
      match d, hk with
      | d + 1, hk =>
        obtain ⟨x, _, rfl⟩ := List.mem_map.1 (show k ∈ (c.kids.take 4).map (cutI d) from hk)
        exact fit_cutI d x
/-- What is told may be weakened; what was made is forgotten. -/
def FinV (st : St) (K : SV → St → Prop) : SV → St → Prop := fun x s => ∃ y, SVle x y ∧ (∃ ex, s = st ++ ex) ∧ Ids st.length y ∧ K y st
theorem acalls_goV {P : Program} (M : List Nat) {f : FuncId} {fn : Func} {c : Code} {rs : Array ResultVar} {n : Nat} {args : List SV} {K : SV → St → Prop} {st : St} (hf : P.funcs[f]? = some fn) (hb : fn.body = some c)
    (hr : fn.results = rs) (hn : fn.ntmps = n) (h : cSpec P M c (RetR P rs.toList (FinV st K)) (args ++ List.replicate (n - args.length) .any) st) : ACalls P f args K st := by
  refine acalls_pureG (acalls_le ((acalls_go hf hb hr hn h).mono ?_))
  rintro x s ⟨y, hle, ⟨ex, rfl⟩, hi, hk⟩
  exact ⟨y, hle, ex, rfl, hi, hk⟩
/-- The state of a cut. -/
structure CutA (st : St) (c : CI) (ks : List Co) (bs : List (List Bn)) (v1 v2 : Nat) (s : St) : Prop where
  res : s[st.length]? = some (.cells [i64 0, i64 0, str ⟨#[]⟩, .slice .full 0 [], i64 0, .slice .full 0 [], .slice .full 0 [], .slice .full 0 [], .slice .full 0 []])
  ob : s[st.length + 1]? = some (.cells [i64 c.kind, i64 c.number, str (cutT c.text), .slice (.own (st.length + 2) v1) 9 (ks.map coSV), i64 0, .slice .full 0 [], .slice .full 0 [], .slice .full 0 [], .slice (.own (st.length + 3) v2) 1 (bs.map bnsSV)])
  t1 : s[st.length + 2]? = some (.tok v1)
  t2 : s[st.length + 3]? = some (.tok v2)
  ex : ∃ ex, s = st ++ ex
theorem cut_start {st S0 : St} {c : CI} (h0 : st ++ [Ob.cells [i64 0, i64 0, str ⟨#[]⟩, .slice .full 0 [], i64 0, .slice .full 0 [], .slice .full 0 [], .slice .full 0 [], .slice .full 0 []],
    Ob.cells [i64 c.kind, i64 c.number, str (cutT c.text), .slice .full 0 [], i64 0, .slice .full 0 [], .slice .full 0 [], .slice .full 0 [], .slice .full 0 []]] = S0) : ∃ S, View S0 S ∧ CutA st c [] [] 0 0 S := by
  have hl0 : S0.length = st.length + 2 := by rw [← h0]; simp
  have a1 : S0[st.length + 1]? = some (.cells [i64 c.kind, i64 c.number, str (cutT c.text), .slice .full 0 [], i64 0, .slice .full 0 [], .slice .full 0 [], .slice .full 0 [], .slice .full 0 []]) := by rw [← h0]; simp
  have v1 := view_ownC (st.length + 1) 3 9 0 a1 (by simp) rfl
  obtain ⟨S1, hS1⟩ : ∃ S1, S0.set (st.length + 1) (.cells (List.set [i64 c.kind, i64 c.number, str (cutT c.text), .slice .full 0 [], i64 0, .slice .full 0 [], .slice .full 0 [], .slice .full 0 [], .slice .full 0 []] 3 (.slice (.own S0.length 0) 9 []))) ++ [Ob.tok 0] = S1 := ⟨_, rfl⟩
  rw [hS1] at v1
  rw [hl0] at hS1
  have hl1 : S1.length = st.length + 3 := by rw [← hS1]; simp [hl0]
  have b1 : S1[st.length + 1]? = some (.cells [i64 c.kind, i64 c.number, str (cutT c.text), .slice (.own (st.length + 2) 0) 9 [], i64 0, .slice .full 0 [], .slice .full 0 [], .slice .full 0 [], .slice .full 0 []]) := by rw [← hS1]; exact get_app (set_get (by omega)) _
  have v2 := view_ownC (st.length + 1) 8 1 0 b1 (by simp) rfl
  rw [hl1] at v2
  refine ⟨_, v1.trans v2, ?_, ?_, ?_, ?_, ?_⟩
  · refine get_app ((set_get_ne (by omega)).trans ?_) _
    rw [← hS1]; refine get_app ((set_get_ne (by omega)).trans ?_) _
    rw [← h0]; simp
  · exact get_app (set_get (by omega)) _
  · refine get_app ((set_get_ne (by omega)).trans ?_) _
    rw [← hS1, List.getElem?_append_right (by simp; omega)]; simp [hl0]
  · rw [List.getElem?_append_right (by simp; omega)]; simp [hl1]
  · rw [← hS1, ← h0]
    exact ex_app2 (ex_set (ex_app2 (ex_set ⟨_, rfl⟩ (by omega) _) _) (by omega) _) _
theorem CutA.app {st s : St} {c : CI} {ks : List Co} {bs : List (List Bn)} {v1 v2 : Nat} (h : CutA st c ks bs v1 v2 s) (l : St) : CutA st c ks bs v1 v2 (s ++ l) := ⟨get_app h.res _, get_app h.ob _, get_app h.t1 _, get_app h.t2 _, ex_app2 h.ex _⟩
theorem CutA.set {st s : St} {c : CI} {ks : List Co} {bs : List (List Bn)} {v1 v2 : Nat} (h : CutA st c ks bs v1 v2 s) {id : Nat} (hi : st.length + 4 ≤ id) (o : Ob) : CutA st c ks bs v1 v2 (s.set id o) :=
  ⟨(set_get_ne (by omega)).trans h.res, (set_get_ne (by omega)).trans h.ob, (set_get_ne (by omega)).trans h.t1, (set_get_ne (by omega)).trans h.t2, ex_set h.ex (by omega) _⟩
end Go.AL
namespace Go.Proofs
open Go Go.AL
theorem Try.app23 {n : Nat} (h : n ≤ 1000000) : AppOk Try.prog 23 23 9 n := appOk_of Try.aelem23 Try.aelem23 Try.asize31 Try.azero31 rfl Try.abytes31 (by omega) h
theorem cell_ci (c : CI) : cellsOf Try.prog 31 (ciSV c).cells = some (ciSV c) := by
  rw [cells_ci, ciSV_eq]
  simp only [cellsOf, Try.aagg31, Try.asize31]
  rfl
theorem ids_cos1 (n : Nat) (x : Co) : Ids n (.slice .full 9 [coSV x]) := ids_slice (.inr rfl) fun y hy z hz => by
  simp only [List.mem_singleton] at hy
  subst hy
  have := ids_co n x
  rw [coSV_eq, ids_agg] at this
  rw [cells_co] at hz
  exact this z hz
theorem Try.app45 {n : Nat} (h : n ≤ 1000000) : AppOk Try.prog 45 45 2 n := appOk_of Try.aelem45 Try.aelem45 Try.asize47 Try.azero47 rfl Try.abytes47 (by omega) h
theorem Try.app29 {n : Nat} (h : n ≤ 1000000) : AppOk Try.prog 29 29 1 n := appOk_of Try.aelem29 Try.aelem29 Try.asize45 Try.azero45 rfl Try.abytes45 (by omega) h
theorem use_cut {Z G : Prop} (hz : Z) (h : Z → G) : G := h hz
set_option maxHeartbeats 4000000 in
theorem cut_step (d : Nat) (hd : d ≤ 1000) (ih : ∀ d', d = d' + 1 → ∀ (c : CI) (K : SV → St → Prop) (st : St), K (coSV (cutI d' c)) st → ACalls Try.prog 4 [ciSV c, i64 d'] K st) (c : CI) (K : SV → St → Prop) (st : St) (h : K (coSV (cutI d c)) st) : ACalls Try.prog 4 [ciSV c, i64 d] K st := by
  refine acalls_goV [] Try.func4 rfl Try.results4 Try.ntmps4 ?_
  rw [ciSV_eq]
  obtain ⟨S0, hS0⟩ : ∃ S0, st ++ [Ob.cells [i64 0, i64 0, str ⟨#[]⟩, .slice .full 0 [], i64 0, .slice .full 0 [], .slice .full 0 [], .slice .full 0 [], .slice .full 0 []],
    Ob.cells [i64 c.kind, i64 c.number, str (cutT c.text), .slice .full 0 [], i64 0, .slice .full 0 [], .slice .full 0 [], .slice .full 0 [], .slice .full 0 []]] = S0 := ⟨_, rfl⟩
  obtain ⟨S, hv, I0⟩ := cut_start hS0
  apply use_cut
  case h =>
    by_cases hc : 70 < c.text.size
    · have d1 : (70 : Int) < (c.text.size : Int) := by omega
      have d2 : (70 : Int) ≤ (c.text.size : Int) := by omega
      have e : c.text.extract 0 (Int.toNat 70) = cutT c.text := by unfold cutT; rw [if_pos hc]; rfl
      have d3 : (0 : Int) ≤ 70 := by omega
      intro g
      simp -implicitDefEqProofs (maxSteps := 2000000) only [↓ops_nil, ↓ops_none, ↓ops_some, ↓kd_eff, ↓dr_nil, ↓dr_cons, ↓d1_none, ↓d1_some, ↓eff_store, ↓eff_box, ↓eff_alloc, ↓eff_build, ↓eff_buildSlice, ↓eff_call, ↓eff_append, ↓eff_copy, ↓eff_clear, ↓eff_make, ↓reduceIte, ↓c_condI, ↓c_seqH, ↓c_blockH, ↓then_nH, ↓then_rH, ↓then_eH, ↓block_nH, ↓block_rH, ↓block_eH, go_sem, d1, d2, e, hS0]
      refine ⟨d3, awp_view hv (awp_weaken (b := [.any, i64 d, .ref [i64 c.kind, i64 c.number, str c.text, .slice .imm 9 (c.kids.map ciSV), i64 c.row, .slice .imm 1 (c.path.map i64), .slice .imm 6 c.cs, .slice .imm 4 c.rs, .slice .imm 1 (c.binds.map bnsSV)], .any, .ptr st.length 0, .ptr (st.length + 1) 0, i64 0, .any, .any, .any, .any, .any, .any, .any, .any, .any, .any, .any, .any, .any, .any, .any, .any, .any, .any, .any, .any, .any, .any, .any, .any, .any, .any, .any, .any, .any, .any, .any, .any, .any, .any, .any, .any, .any, .any, .any, .any, .any, .any, .any, .any, .any, .any, .any, .any, .any, .any, .any, .any, .any, .any, .any, .any, .any, .any, .any, .any, .any, .any, .any, .any, .any, .any, .any, .any, .any, .any, .any, .any, .any, .any, .any, .any, .any, .any, .any, .any, .any, .any, .any, .any, .any, .any, .any, .any, .any, .any, .any, .any, .any, .any, .any, .any, .any, .any, .any, .any, .any, .any, .any, .any, .any, .any, .any, .any, .any, .any, .any, .any, .any, .any, .any, .any, .any, .any, .any, .any, .any, .any, .any, .any, .any, .any, .any, .any, .any]) ?_ g)⟩
      repeat (first | exact leEnv_nil | refine leEnv_any _ ?_ | refine leEnv_same _ ?_ | refine leEnv_norm _ ?_)
    · have d1 : ¬ (70 : Int) < (c.text.size : Int) := by omega
      have e : cutT c.text = c.text := by unfold cutT; rw [if_neg hc]
      rw [e] at hS0
      have qa := cells_facts (show S0[st.length + 1]? = some (.cells [i64 c.kind, i64 c.number, str c.text, .slice .full 0 [], i64 0, .slice .full 0 [], .slice .full 0 [], .slice .full 0 [], .slice .full 0 []]) by rw [← hS0]; simp)
      intro g
      simp -implicitDefEqProofs (maxSteps := 2000000) only [↓ops_nil, ↓ops_none, ↓ops_some, ↓kd_eff, ↓dr_nil, ↓dr_cons, ↓d1_none, ↓d1_some, ↓eff_store, ↓eff_box, ↓eff_alloc, ↓eff_build, ↓eff_buildSlice, ↓eff_call, ↓eff_append, ↓eff_copy, ↓eff_clear, ↓eff_make, ↓reduceIte, ↓c_condI, ↓c_seqH, ↓c_blockH, ↓then_nH, ↓then_rH, ↓then_eH, ↓block_nH, ↓block_rH, ↓block_eH, go_sem, d1, hS0, qa.1, qa.2.1, qa.2.2]
      refine awp_view hv (awp_weaken (b := [.any, i64 d, .ref [i64 c.kind, i64 c.number, str c.text, .slice .imm 9 (c.kids.map ciSV), i64 c.row, .slice .imm 1 (c.path.map i64), .slice .imm 6 c.cs, .slice .imm 4 c.rs, .slice .imm 1 (c.binds.map bnsSV)], .any, .ptr st.length 0, .ptr (st.length + 1) 0, i64 0, .any, .any, .any, .any, .any, .any, .any, .any, .any, .any, .any, .any, .any, .any, .any, .any, .any, .any, .any, .any, .any, .any, .any, .any, .any, .any, .any, .any, .any, .any, .any, .any, .any, .any, .any, .any, .any, .any, .any, .any, .any, .any, .any, .any, .any, .any, .any, .any, .any, .any, .any, .any, .any, .any, .any, .any, .any, .any, .any, .any, .any, .any, .any, .any, .any, .any, .any, .any, .any, .any, .any, .any, .any, .any, .any, .any, .any, .any, .any, .any, .any, .any, .any, .any, .any, .any, .any, .any, .any, .any, .any, .any, .any, .any, .any, .any, .any, .any, .any, .any, .any, .any, .any, .any, .any, .any, .any, .any, .any, .any, .any, .any, .any, .any, .any, .any, .any, .any, .any, .any, .any, .any, .any, .any, .any, .any, .any, .any, .any]) ?_ g)
      repeat (first | exact leEnv_nil | refine leEnv_any _ ?_ | refine leEnv_same _ ?_ | refine leEnv_norm _ ?_)
  case hz =>
    clear hv hS0
    refine awp_rounds [] (fun b e s => ∃ k v1, k + b = 4 ∧ k ≤ c.kids.length ∧ (d = 0 → k = 0) ∧ CutA st c ((c.kids.take k).map (cutI (d - 1))) [] v1 0 s ∧ e = [.any, i64 d, .ref [i64 c.kind, i64 c.number, str c.text, .slice .imm 9 (c.kids.map ciSV), i64 c.row, .slice .imm 1 (c.path.map i64), .slice .imm 6 c.cs, .slice .imm 4 c.rs, .slice .imm 1 (c.binds.map bnsSV)], .any, .ptr st.length 0, .ptr (st.length + 1) 0, i64 k, .any, .any, .any, .any, .any, .any, .any, .any, .any, .any, .any, .any, .any, .any, .any, .any, .any, .any, .any, .any, .any, .any, .any, .any, .any, .any, .any, .any, .any, .any, .any, .any, .any, .any, .any, .any, .any, .any, .any, .any, .any, .any, .any, .any, .any, .any, .any, .any, .any, .any, .any, .any, .any, .any, .any, .any, .any, .any, .any, .any, .any, .any, .any, .any, .any, .any, .any, .any, .any, .any, .any, .any, .any, .any, .any, .any, .any, .any, .any, .any, .any, .any, .any, .any, .any, .any, .any, .any, .any, .any, .any, .any, .any, .any, .any, .any, .any, .any, .any, .any, .any, .any, .any, .any, .any, .any, .any, .any, .any, .any, .any, .any, .any, .any, .any, .any, .any, .any, .any, .any, .any, .any, .any, .any, .any, .any, .any, .any, .any]) (n := 4) ?_ ⟨0, 0, by omega, by omega, fun _ => rfl, I0, rfl⟩ ?_
    · repeat (first | exact leEnv_nil | refine leEnv_any _ ?_ | refine leEnv_same _ ?_ | refine leEnv_norm _ ?_)
    rintro b e s ⟨k, v1, hk, hkl, hk0, I, rfl⟩
    have q1 := cells_facts I.ob
    have qt := tokAt_eq (v' := v1) I.t1
    have hw : IntKind.i64.wrap ((k : Int) + 1) = ((k + 1 : Nat) : Int) := by rw [IntWalk.i64_in _ (by omega)]; rfl
    by_cases hgo : k < c.kids.length ∧ k < 4 ∧ 0 < d
    · obtain ⟨h1, h2, h3⟩ := hgo
      have d1 : (k : Int) < (c.kids.length : Int) := by omega
      have d2 : (k : Int) < 4 := by omega
      have d3 : (0 : Int) < (d : Int) := by omega
      have hgk : (c.kids.map ciSV).getD k .any = ciSV c.kids[k] := by simp [List.getD_eq_getElem?_getD, h1]
      have hwd : IntKind.i64.wrap ((d : Int) - 1) = ((d - 1 : Nat) : Int) := by rw [IntWalk.i64_in _ (by omega)]; omega
      have happ := Try.app23 (n := k + 1) (by omega)
      have hlk : (c.kids.take k).length = k := by simp; omega
      simp -implicitDefEqProofs (maxSteps := 2000000) only [↓ops_nil, ↓ops_none, ↓ops_some, ↓kd_eff, ↓dr_nil, ↓dr_cons, ↓d1_none, ↓d1_some, ↓eff_store, ↓eff_box, ↓eff_alloc, ↓eff_build, ↓eff_buildSlice, ↓eff_call, ↓eff_append, ↓eff_copy, ↓eff_clear, ↓eff_make, ↓reduceIte, ↓c_condI, ↓c_seqH, ↓c_blockH, ↓then_nH, ↓then_rH, ↓then_eH, ↓block_nH, ↓block_rH, ↓block_eH, go_sem, d1, d2, d3, List.length_map]
      refine awp_drawW [] [(0, []), (0, []), (0, []), (0, []), (0, []), (0, []), (0, []), (0, []), (0, []), (0, []), (0, []), (3, [13]), (0, []), (1, [14])] Try.mixed rfl ?_
      simp -implicitDefEqProofs (maxSteps := 2000000) only [↓ops_nil, ↓ops_none, ↓ops_some, ↓kd_eff, ↓dr_nil, ↓dr_cons, ↓d1_none, ↓d1_some, ↓eff_store, ↓eff_box, ↓eff_alloc, ↓eff_build, ↓eff_buildSlice, ↓eff_call, ↓eff_append, ↓eff_copy, ↓eff_clear, ↓eff_make, ↓reduceIte, ↓c_condI, ↓c_seqH, ↓c_blockH, ↓then_nH, ↓then_rH, ↓then_eH, ↓block_nH, ↓block_rH, ↓block_eH, go_sem, drawW_n, drawW_0, drawW_1, drawW_2, drawW_3, pend_n, pend_c, headD_c, isStore_s, q1.1, q1.2.1, q1.2.2, List.length_map, d1, hgk, cell_ci]
      obtain ⟨d', rfl⟩ : ∃ d', d = d' + 1 := ⟨d - 1, by omega⟩
      rw [dk_eff]
      refine ⟨coSV (cutI d' c.kids[k]), ?_, ?_⟩
      · simp -implicitDefEqProofs (maxSteps := 2000000) only [↓ops_nil, ↓ops_none, ↓ops_some, ↓kd_eff, ↓dr_nil, ↓dr_cons, ↓d1_none, ↓d1_some, ↓eff_store, ↓eff_box, ↓eff_alloc, ↓eff_build, ↓eff_buildSlice, ↓eff_call, ↓eff_append, ↓eff_copy, ↓eff_clear, ↓eff_make, ↓reduceIte, ↓c_condI, ↓c_seqH, ↓c_blockH, ↓then_nH, ↓then_rH, ↓then_eH, ↓block_nH, ↓block_rH, ↓block_eH, go_sem, hwd]
        refine ih d' rfl c.kids[k] _ _ ?_
        refine ⟨⟨[], by simp⟩, ids_co _ _, .inl rfl⟩
      rw [dk_eff]
      refine ⟨.slice .full 9 [coSV (cutI d' c.kids[k])], ?_, ?_⟩
      · simp -implicitDefEqProofs (maxSteps := 2000000) only [↓ops_nil, ↓ops_none, ↓ops_some, ↓kd_eff, ↓dr_nil, ↓dr_cons, ↓d1_none, ↓d1_some, ↓eff_store, ↓eff_box, ↓eff_alloc, ↓eff_build, ↓eff_buildSlice, ↓eff_call, ↓eff_append, ↓eff_copy, ↓eff_clear, ↓eff_make, ↓reduceIte, ↓c_condI, ↓c_seqH, ↓c_blockH, ↓then_nH, ↓then_rH, ↓then_eH, ↓block_nH, ↓block_rH, ↓block_eH, go_sem]
        exact ⟨⟨[], by simp⟩, ids_cos1 _ _, .inl rfl⟩
      simp -implicitDefEqProofs (maxSteps := 2000000) only [↓ops_nil, ↓ops_none, ↓ops_some, ↓kd_eff, ↓dr_nil, ↓dr_cons, ↓d1_none, ↓d1_some, ↓eff_store, ↓eff_box, ↓eff_alloc, ↓eff_build, ↓eff_buildSlice, ↓eff_call, ↓eff_append, ↓eff_copy, ↓eff_clear, ↓eff_make, ↓reduceIte, ↓c_condI, ↓c_seqH, ↓c_blockH, ↓then_nH, ↓then_rH, ↓then_eH, ↓block_nH, ↓block_rH, ↓block_eH, go_sem, drawW_n, drawW_0, drawW_1, drawW_2, drawW_3, pend_n, pend_c, headD_c, isStore_s, q1.1, q1.2.1, q1.2.2, List.length_map, hlk, qt, Nat.add_sub_cancel]
      obtain ⟨S2, hS2⟩ : ∃ S2, s.set (st.length + 2) (.tok (v1 + 1)) = S2 := ⟨_, rfl⟩
      have hl2 := lt_of_get I.t1
      have hl1 := lt_of_get I.ob
      have r1 := cells_facts (show S2[st.length + 1]? = _ from by rw [← hS2, set_get_ne (by omega)]; exact I.ob)
      refine ⟨_, S2, ⟨happ, rfl, hS2⟩, ?_⟩
      simp -implicitDefEqProofs (maxSteps := 2000000) only [↓ops_nil, ↓ops_none, ↓ops_some, ↓kd_eff, ↓dr_nil, ↓dr_cons, ↓d1_none, ↓d1_some, ↓eff_store, ↓eff_box, ↓eff_alloc, ↓eff_build, ↓eff_buildSlice, ↓eff_call, ↓eff_append, ↓eff_copy, ↓eff_clear, ↓eff_make, ↓reduceIte, ↓c_condI, ↓c_seqH, ↓c_blockH, ↓then_nH, ↓then_rH, ↓then_eH, ↓block_nH, ↓block_rH, ↓block_eH, go_sem, r1.1, r1.2.1, r1.2.2, hw]
      have hks : (c.kids.take (k + 1)).map (cutI d') = (c.kids.take k).map (cutI d') ++ [cutI d' c.kids[k]] := by rw [List.take_succ_eq_append_getElem h1, List.map_append]; rfl
      have hks2 : ((c.kids.take (k + 1)).map (cutI d')).map coSV = ((c.kids.take k).map (cutI d')).map coSV ++ [coSV (cutI d' c.kids[k])] := by rw [hks, List.map_append]; rfl
      refine ⟨b - 1, [.any, i64 ((d' + 1 : Nat) : Int), .ref [i64 c.kind, i64 c.number, str c.text, .slice .imm 9 (c.kids.map ciSV), i64 c.row, .slice .imm 1 (c.path.map i64), .slice .imm 6 c.cs, .slice .imm 4 c.rs, .slice .imm 1 (c.binds.map bnsSV)], .any, .ptr st.length 0, .ptr (st.length + 1) 0, i64 ((k + 1 : Nat) : Int), .any, .any, .any, .any, .any, .any, .any, .any, .any, .any, .any, .any, .any, .any, .any, .any, .any, .any, .any, .any, .any, .any, .any, .any, .any, .any, .any, .any, .any, .any, .any, .any, .any, .any, .any, .any, .any, .any, .any, .any, .any, .any, .any, .any, .any, .any, .any, .any, .any, .any, .any, .any, .any, .any, .any, .any, .any, .any, .any, .any, .any, .any, .any, .any, .any, .any, .any, .any, .any, .any, .any, .any, .any, .any, .any, .any, .any, .any, .any, .any, .any, .any, .any, .any, .any, .any, .any, .any, .any, .any, .any, .any, .any, .any, .any, .any, .any, .any, .any, .any, .any, .any, .any, .any, .any, .any, .any, .any, .any, .any, .any, .any, .any, .any, .any, .any, .any, .any, .any, .any, .any, .any, .any, .any, .any, .any, .any, .any, .any], by omega, ?_, k + 1, v1 + 1, by omega, by omega, ?_, rfl⟩
      · repeat (first | exact leEnv_nil | refine leEnv_any _ ?_ | refine leEnv_same _ ?_ | refine leEnv_norm _ ?_)
      refine ⟨?_, ?_, ?_, ?_, ?_⟩
      · rw [set_get_ne (by omega), ← hS2, set_get_ne (by omega)]; exact I.res
      · rw [set_get (by rw [← hS2]; simpa using hl1), hks2]; rfl
      · rw [set_get_ne (by omega), ← hS2, set_get hl2]
      · rw [set_get_ne (by omega), ← hS2, set_get_ne (by omega)]; exact I.t2
      · rw [← hS2]; exact ex_set (ex_set I.ex (by omega) _) (by omega) _
    have hks : (c.kids.take k).map (cutI (d - 1)) = cutKs d c := by
      cases d with
      | zero => rw [hk0 rfl]; rfl
      | succ d =>
        have hk4 : k = c.kids.length ∨ k = 4 := by omega
        rcases hk4 with rfl | rfl
        · have : c.kids.length ≤ 4 := by omega
          show (c.kids.take c.kids.length).map (cutI d) = (c.kids.take 4).map (cutI d)
          rw [List.take_length, List.take_of_length_le this]
        · rfl
    rw [hks] at I q1
    apply use_cut
    case h =>
      by_cases h1 : k < c.kids.length
      · have d1 : (k : Int) < (c.kids.length : Int) := by omega
        by_cases h2 : k < 4
        · have d2 : (k : Int) < 4 := by omega
          have d3 : ¬ (0 : Int) < (d : Int) := by omega
          intro g
          simp -implicitDefEqProofs (maxSteps := 2000000) only [↓ops_nil, ↓ops_none, ↓ops_some, ↓kd_eff, ↓dr_nil, ↓dr_cons, ↓d1_none, ↓d1_some, ↓eff_store, ↓eff_box, ↓eff_alloc, ↓eff_build, ↓eff_buildSlice, ↓eff_call, ↓eff_append, ↓eff_copy, ↓eff_clear, ↓eff_make, ↓reduceIte, ↓c_condI, ↓c_seqH, ↓c_blockH, ↓then_nH, ↓then_rH, ↓then_eH, ↓block_nH, ↓block_rH, ↓block_eH, go_sem, d1, d2, d3, List.length_map]
          refine awp_weaken (b := [.any, .any, .ref [i64 c.kind, i64 c.number, str c.text, .slice .imm 9 (c.kids.map ciSV), i64 c.row, .slice .imm 1 (c.path.map i64), .slice .imm 6 c.cs, .slice .imm 4 c.rs, .slice .imm 1 (c.binds.map bnsSV)], .any, .ptr st.length 0, .ptr (st.length + 1) 0, .any, i64 0, .any, .any, .any, .any, .any, .any, .any, .any, .any, .any, .any, .any, .any, .any, .any, .any, .any, .any, .any, .any, .any, .any, .any, .any, .any, .any, .any, .any, .any, .any, .any, .any, .any, .any, .any, .any, .any, .any, .any, .any, .any, .any, .any, .any, .any, .any, .any, .any, .any, .any, .any, .any, .any, .any, .any, .any, .any, .any, .any, .any, .any, .any, .any, .any, .any, .any, .any, .any, .any, .any, .any, .any, .any, .any, .any, .any, .any, .any, .any, .any, .any, .any, .any, .any, .any, .any, .any, .any, .any, .any, .any, .any, .any, .any, .any, .any, .any, .any, .any, .any, .any, .any, .any, .any, .any, .any, .any, .any, .any, .any, .any, .any, .any, .any, .any, .any, .any, .any, .any, .any, .any, .any, .any, .any, .any, .any, .any, .any]) ?_ g
          repeat (first | exact leEnv_nil | refine leEnv_any _ ?_ | refine leEnv_same _ ?_ | refine leEnv_norm _ ?_)
        · have d2 : ¬ (k : Int) < 4 := by omega
          intro g
          simp -implicitDefEqProofs (maxSteps := 2000000) only [↓ops_nil, ↓ops_none, ↓ops_some, ↓kd_eff, ↓dr_nil, ↓dr_cons, ↓d1_none, ↓d1_some, ↓eff_store, ↓eff_box, ↓eff_alloc, ↓eff_build, ↓eff_buildSlice, ↓eff_call, ↓eff_append, ↓eff_copy, ↓eff_clear, ↓eff_make, ↓reduceIte, ↓c_condI, ↓c_seqH, ↓c_blockH, ↓then_nH, ↓then_rH, ↓then_eH, ↓block_nH, ↓block_rH, ↓block_eH, go_sem, d1, d2, List.length_map]
          refine awp_weaken (b := [.any, .any, .ref [i64 c.kind, i64 c.number, str c.text, .slice .imm 9 (c.kids.map ciSV), i64 c.row, .slice .imm 1 (c.path.map i64), .slice .imm 6 c.cs, .slice .imm 4 c.rs, .slice .imm 1 (c.binds.map bnsSV)], .any, .ptr st.length 0, .ptr (st.length + 1) 0, .any, i64 0, .any, .any, .any, .any, .any, .any, .any, .any, .any, .any, .any, .any, .any, .any, .any, .any, .any, .any, .any, .any, .any, .any, .any, .any, .any, .any, .any, .any, .any, .any, .any, .any, .any, .any, .any, .any, .any, .any, .any, .any, .any, .any, .any, .any, .any, .any, .any, .any, .any, .any, .any, .any, .any, .any, .any, .any, .any, .any, .any, .any, .any, .any, .any, .any, .any, .any, .any, .any, .any, .any, .any, .any, .any, .any, .any, .any, .any, .any, .any, .any, .any, .any, .any, .any, .any, .any, .any, .any, .any, .any, .any, .any, .any, .any, .any, .any, .any, .any, .any, .any, .any, .any, .any, .any, .any, .any, .any, .any, .any, .any, .any, .any, .any, .any, .any, .any, .any, .any, .any, .any, .any, .any, .any, .any, .any, .any, .any, .any]) ?_ g
          repeat (first | exact leEnv_nil | refine leEnv_any _ ?_ | refine leEnv_same _ ?_ | refine leEnv_norm _ ?_)
      · have d1 : ¬ (k : Int) < (c.kids.length : Int) := by omega
        intro g
        simp -implicitDefEqProofs (maxSteps := 2000000) only [↓ops_nil, ↓ops_none, ↓ops_some, ↓kd_eff, ↓dr_nil, ↓dr_cons, ↓d1_none, ↓d1_some, ↓eff_store, ↓eff_box, ↓eff_alloc, ↓eff_build, ↓eff_buildSlice, ↓eff_call, ↓eff_append, ↓eff_copy, ↓eff_clear, ↓eff_make, ↓reduceIte, ↓c_condI, ↓c_seqH, ↓c_blockH, ↓then_nH, ↓then_rH, ↓then_eH, ↓block_nH, ↓block_rH, ↓block_eH, go_sem, d1, List.length_map]
        refine awp_weaken (b := [.any, .any, .ref [i64 c.kind, i64 c.number, str c.text, .slice .imm 9 (c.kids.map ciSV), i64 c.row, .slice .imm 1 (c.path.map i64), .slice .imm 6 c.cs, .slice .imm 4 c.rs, .slice .imm 1 (c.binds.map bnsSV)], .any, .ptr st.length 0, .ptr (st.length + 1) 0, .any, i64 0, .any, .any, .any, .any, .any, .any, .any, .any, .any, .any, .any, .any, .any, .any, .any, .any, .any, .any, .any, .any, .any, .any, .any, .any, .any, .any, .any, .any, .any, .any, .any, .any, .any, .any, .any, .any, .any, .any, .any, .any, .any, .any, .any, .any, .any, .any, .any, .any, .any, .any, .any, .any, .any, .any, .any, .any, .any, .any, .any, .any, .any, .any, .any, .any, .any, .any, .any, .any, .any, .any, .any, .any, .any, .any, .any, .any, .any, .any, .any, .any, .any, .any, .any, .any, .any, .any, .any, .any, .any, .any, .any, .any, .any, .any, .any, .any, .any, .any, .any, .any, .any, .any, .any, .any, .any, .any, .any, .any, .any, .any, .any, .any, .any, .any, .any, .any, .any, .any, .any, .any, .any, .any, .any, .any, .any, .any, .any, .any]) ?_ g
        repeat (first | exact leEnv_nil | refine leEnv_any _ ?_ | refine leEnv_same _ ?_ | refine leEnv_norm _ ?_)
    case hz =>
      refine awp_rounds [] (fun b e s => ∃ r v2 v1, r + b = 3 ∧ r ≤ c.binds.length ∧ CutA st c (cutKs d c) ((c.binds.take r).map fun l => (l.take 3).map cutB) v1 v2 s ∧ e = [.any, .any, .ref [i64 c.kind, i64 c.number, str c.text, .slice .imm 9 (c.kids.map ciSV), i64 c.row, .slice .imm 1 (c.path.map i64), .slice .imm 6 c.cs, .slice .imm 4 c.rs, .slice .imm 1 (c.binds.map bnsSV)], .any, .ptr st.length 0, .ptr (st.length + 1) 0, .any, i64 r, .any, .any, .any, .any, .any, .any, .any, .any, .any, .any, .any, .any, .any, .any, .any, .any, .any, .any, .any, .any, .any, .any, .any, .any, .any, .any, .any, .any, .any, .any, .any, .any, .any, .any, .any, .any, .any, .any, .any, .any, .any, .any, .any, .any, .any, .any, .any, .any, .any, .any, .any, .any, .any, .any, .any, .any, .any, .any, .any, .any, .any, .any, .any, .any, .any, .any, .any, .any, .any, .any, .any, .any, .any, .any, .any, .any, .any, .any, .any, .any, .any, .any, .any, .any, .any, .any, .any, .any, .any, .any, .any, .any, .any, .any, .any, .any, .any, .any, .any, .any, .any, .any, .any, .any, .any, .any, .any, .any, .any, .any, .any, .any, .any, .any, .any, .any, .any, .any, .any, .any, .any, .any, .any, .any, .any, .any, .any, .any]) (n := 3) ?_ ⟨0, 0, v1, by omega, by omega, I, rfl⟩ ?_
      · repeat (first | exact leEnv_nil | refine leEnv_any _ ?_ | refine leEnv_same _ ?_ | refine leEnv_norm _ ?_)
      clear hgo q1 qt I hw hks hk hkl hk0 k b s v1 I0 ih
      rintro b e s ⟨r, v2, v1, hr, hrl, I, rfl⟩
      have q1 := cells_facts I.ob
      have qt := tokAt_eq (v' := v2) I.t2
      have hw : IntKind.i64.wrap ((r : Int) + 1) = ((r + 1 : Nat) : Int) := by rw [IntWalk.i64_in _ (by omega)]; rfl
      by_cases hgo : r < c.binds.length ∧ r < 3
      · obtain ⟨h1, h2⟩ := hgo
        have d1 : (r : Int) < (c.binds.length : Int) := by omega
        have d2 : (r : Int) < 3 := by omega
        have hgr : (c.binds.map bnsSV).getD r .any = .slice .imm 2 (c.binds[r].map bnSV) := by simp [List.getD_eq_getElem?_getD, h1, bnsSV]
        have hrow : (c.binds.take (r + 1)).map (fun l => (l.take 3).map cutB) = (c.binds.take r).map (fun l => (l.take 3).map cutB) ++ [(c.binds[r].take 3).map cutB] := by rw [List.take_succ_eq_append_getElem h1, List.map_append]; rfl
        generalize c.binds[r] = row at *
        simp -implicitDefEqProofs (maxSteps := 2000000) only [↓ops_nil, ↓ops_none, ↓ops_some, ↓kd_eff, ↓dr_nil, ↓dr_cons, ↓d1_none, ↓d1_some, ↓eff_store, ↓eff_box, ↓eff_alloc, ↓eff_build, ↓eff_buildSlice, ↓eff_call, ↓eff_append, ↓eff_copy, ↓eff_clear, ↓eff_make, ↓reduceIte, ↓c_condI, ↓c_seqH, ↓c_blockH, ↓then_nH, ↓then_rH, ↓then_eH, ↓block_nH, ↓block_rH, ↓block_eH, go_sem, d1, d2, List.length_map]
        refine awp_own 8 2 0 rfl ?_
        have hTT : (s ++ [Ob.tok 0])[s.length]? = some (.tok 0) := by simp
        have hI4 := I.app [Ob.tok 0]
        obtain ⟨TT, hTd⟩ : ∃ TT, s.length = TT := ⟨_, rfl⟩
        have hTT4 : st.length + 4 ≤ TT := by have := lt_of_get I.t2; omega
        rw [hTd] at hTT ⊢
        obtain ⟨s4, hs4⟩ : ∃ s4, s ++ [Ob.tok 0] = s4 := ⟨_, rfl⟩
        rw [hs4] at hTT hI4 ⊢
        refine awp_rounds [] (fun b4 e s => ∃ q vt, q + b4 = 3 ∧ q ≤ row.length ∧ CutA st c (cutKs d c) ((c.binds.take r).map fun l => (l.take 3).map cutB) v1 v2 s ∧ s[TT]? = some (.tok vt) ∧ e = [.any, .any, .ref [i64 c.kind, i64 c.number, str c.text, .slice .imm 9 (c.kids.map ciSV), i64 c.row, .slice .imm 1 (c.path.map i64), .slice .imm 6 c.cs, .slice .imm 4 c.rs, .slice .imm 1 (c.binds.map bnsSV)], .any, .ptr st.length 0, .ptr (st.length + 1) 0, .any, i64 r, .slice (.own TT vt) 2 (((row.take q).map cutB).map bnSV), i64 q, .any, .any, .any, .any, .any, .any, .any, .any, .any, .any, .any, .any, .any, .any, .any, .any, .any, .any, .any, .any, .any, .any, .any, .any, .any, .any, .any, .any, .any, .any, .any, .any, .any, .any, .any, .any, .any, .any, .any, .any, .any, .any, .any, .any, .any, .any, .any, .any, .any, .any, .any, .any, .any, .any, .any, .any, .any, .any, .any, .any, .any, .any, .any, .any, .any, .any, .any, .any, .any, .any, .any, .any, .any, .any, .any, .any, .any, .any, .any, .any, .any, .any, .any, .any, .any, .any, .any, .any, .any, .any, .any, .any, .any, .any, .any, .any, .any, .any, .any, .any, .any, .any, .any, .any, .any, .any, .any, .any, .any, .any, .any, .any, .any, .any, .any, .any, .any, .any, .any, .any, .any, .any, .any, .any, .any, .any]) (n := 3) ?_ ⟨0, 0, by omega, by omega, hI4, hTT, rfl⟩ ?_
        · simp only [List.set_cons_succ, List.set_cons_zero]
          repeat (first | exact leEnv_nil | refine leEnv_any _ ?_ | refine leEnv_same _ ?_ | refine leEnv_norm _ ?_)
        clear hI4 hTT hs4 s4 hTd I q1 qt s
        rintro b4 e s ⟨q, vt, hq, hql, I, hT, rfl⟩
        have q1 := cells_facts I.ob
        have qt2 := tokAt_eq (v' := v2) I.t2
        have qT := tokAt_eq (v' := vt) hT
        have hwq : IntKind.i64.wrap ((q : Int) + 1) = ((q + 1 : Nat) : Int) := by rw [IntWalk.i64_in _ (by omega)]; rfl
        by_cases hgo : q < row.length ∧ q < 3
        · obtain ⟨h3, h4⟩ := hgo
          have d3 : (q : Int) < (row.length : Int) := by omega
          have d4 : (q : Int) < 3 := by omega
          have hgq : (row.map bnSV).getD q .any = .agg [i64 row[q].loc, .slice .imm 1 (row[q].path.map i64)] := by simp [List.getD_eq_getElem?_getD, h3, bnSV]
          have hbn : (row.take (q + 1)).map cutB = (row.take q).map cutB ++ [cutB row[q]] := by rw [List.take_succ_eq_append_getElem h3, List.map_append]; rfl
          generalize row[q] = bn at *
          simp -implicitDefEqProofs (maxSteps := 2000000) only [↓ops_nil, ↓ops_none, ↓ops_some, ↓kd_eff, ↓dr_nil, ↓dr_cons, ↓d1_none, ↓d1_some, ↓eff_store, ↓eff_box, ↓eff_alloc, ↓eff_build, ↓eff_buildSlice, ↓eff_call, ↓eff_append, ↓eff_copy, ↓eff_clear, ↓eff_make, ↓reduceIte, ↓c_condI, ↓c_seqH, ↓c_blockH, ↓then_nH, ↓then_rH, ↓then_eH, ↓block_nH, ↓block_rH, ↓block_eH, go_sem, d1, hgr, d3, d4, List.length_map, hgq]
          obtain ⟨M, hM⟩ : ∃ M, s.length = M := ⟨_, rfl⟩
          have hMT : TT < M := by rw [← hM]; exact lt_of_get hT
          have hm0 : (s ++ [Ob.cells [i64 bn.loc, .slice .full 0 []]])[M]? = some (.cells [i64 bn.loc, .slice .full 0 []]) := by rw [← hM]; simp
          have hv := view_ownC M 1 1 0 hm0 (by simp) rfl
          obtain ⟨s6, hs6⟩ : ∃ s6, (s ++ [Ob.cells [i64 bn.loc, .slice .full 0 []]]).set M (.cells (List.set [i64 bn.loc, .slice .full 0 []] 1 (.slice (.own (s ++ [Ob.cells [i64 bn.loc, .slice .full 0 []]]).length 0) 1 []))) ++ [Ob.tok 0] = s6 := ⟨_, rfl⟩
          rw [hs6] at hv
          rw [show (s ++ [Ob.cells [i64 bn.loc, .slice .full 0 []]]).length = M + 1 by rw [← hM]; simp] at hs6
          have I6 : CutA st c (cutKs d c) ((c.binds.take r).map fun l => (l.take 3).map cutB) v1 v2 s6 := by rw [← hs6]; exact ((I.app _).set (by omega) _).app _
          have hT6 : s6[TT]? = some (.tok vt) := by rw [← hs6]; exact get_app ((set_get_ne (by omega)).trans (get_app hT _)) _
          have hM6 : s6[M]? = some (.cells [i64 bn.loc, .slice (.own (M + 1) 0) 1 []]) := by rw [← hs6]; exact get_app (set_get (by rw [← hM]; simp)) _
          have hM7 : s6[M + 1]? = some (.tok 0) := by
            rw [← hs6, List.getElem?_append_right (by rw [List.length_set, ← hM]; simp)]
            simp [← hM]
          rw [hM]
          refine awp_view hv ?_
          refine awp_rounds [] (fun b6 e s => ∃ jj vp, jj + b6 = 3 ∧ jj ≤ bn.path.length ∧ CutA st c (cutKs d c) ((c.binds.take r).map fun l => (l.take 3).map cutB) v1 v2 s ∧ s[TT]? = some (.tok vt) ∧ s[M]? = some (.cells [i64 bn.loc, .slice (.own (M + 1) vp) 1 ((bn.path.take jj).map i64)]) ∧ s[M + 1]? = some (.tok vp) ∧
            e = [.any, .any, .ref [i64 c.kind, i64 c.number, str c.text, .slice .imm 9 (c.kids.map ciSV), i64 c.row, .slice .imm 1 (c.path.map i64), .slice .imm 6 c.cs, .slice .imm 4 c.rs, .slice .imm 1 (c.binds.map bnsSV)], .any, .ptr st.length 0, .ptr (st.length + 1) 0, .any, i64 r, .slice (.own TT vt) 2 (((row.take q).map cutB).map bnSV), i64 q, .ptr M 0, i64 jj, .any, .any, .any, .any, .any, .any, .any, .any, .any, .any, .any, .any, .any, .any, .any, .any, .any, .any, .any, .any, .any, .any, .any, .any, .any, .any, .any, .any, .any, .any, .any, .any, .any, .any, .any, .any, .any, .any, .any, .any, .any, .any, .any, .any, .any, .any, .any, .any, .any, .any, .any, .any, .any, .any, .any, .any, .any, .any, .any, .any, .any, .any, .any, .any, .any, .any, .any, .any, .any, .any, .any, .any, .any, .any, .any, .any, .any, .any, .any, .any, .any, .any, .any, .any, .any, .any, .any, .any, .any, .any, .any, .any, .any, .any, .any, .any, .any, .any, .any, .any, .any, .any, .any, .any, .any, .any, .any, .any, .any, .any, .any, .any, .any, .any, .any, .any, .any, .any, .any, .any, .any, .any, .any, .any]) (n := 3) ?_ ⟨0, 0, by omega, by omega, I6, hT6, hM6, hM7, rfl⟩ ?_
          · repeat (first | exact leEnv_nil | refine leEnv_any _ ?_ | refine leEnv_same _ ?_ | refine leEnv_norm _ ?_)
          clear I6 hT6 hM6 hM7 hs6 hv s6 hm0 I hT qT qt2 q1 hM s
          rintro b6 e s ⟨jj, vp, hj, hjl, I, hT, hM6, hM7, rfl⟩
          have q1 := cells_facts I.ob
          have qT := tokAt_eq (v' := vt) hT
          have qM := cells_facts hM6
          have qMt := tokAt_eq (v' := vp) hM7
          have hwj : IntKind.i64.wrap ((jj : Int) + 1) = ((jj + 1 : Nat) : Int) := by rw [IntWalk.i64_in _ (by omega)]; rfl
          by_cases hgo : jj < bn.path.length ∧ jj < 3
          · obtain ⟨h5, h6⟩ := hgo
            have d5 : (jj : Int) < (bn.path.length : Int) := by omega
            have d6 : (jj : Int) < 3 := by omega
            have hgj : (bn.path.map i64).getD jj .any = i64 bn.path[jj] := by simp [List.getD_eq_getElem?_getD, h5]
            have hpp : (bn.path.take (jj + 1)).map i64 = (bn.path.take jj).map i64 ++ [i64 bn.path[jj]] := by rw [List.take_succ_eq_append_getElem h5, List.map_append]; rfl
            have hlj : (bn.path.take jj).length = jj := by simp; omega
            have happ := Try.app24 (n := jj + 1) (by omega)
            generalize bn.path[jj] = x at *
            simp -implicitDefEqProofs (maxSteps := 2000000) only [↓ops_nil, ↓ops_none, ↓ops_some, ↓kd_eff, ↓dr_nil, ↓dr_cons, ↓d1_none, ↓d1_some, ↓eff_store, ↓eff_box, ↓eff_alloc, ↓eff_build, ↓eff_buildSlice, ↓eff_call, ↓eff_append, ↓eff_copy, ↓eff_clear, ↓eff_make, ↓reduceIte, ↓c_condI, ↓c_seqH, ↓c_blockH, ↓then_nH, ↓then_rH, ↓then_eH, ↓block_nH, ↓block_rH, ↓block_eH, go_sem, d1, hgr, d3, hgq, d5, d6, List.length_map]
            refine awp_drawW [] [(0, []), (0, []), (0, []), (0, []), (0, []), (0, []), (0, []), (0, []), (0, []), (0, []), (0, []), (0, []), (0, []), (0, []), (0, []), (3, [17]), (0, []), (1, [18])] Try.mixed rfl ?_
            simp -implicitDefEqProofs (maxSteps := 2000000) only [↓ops_nil, ↓ops_none, ↓ops_some, ↓kd_eff, ↓dr_nil, ↓dr_cons, ↓d1_none, ↓d1_some, ↓eff_store, ↓eff_box, ↓eff_alloc, ↓eff_build, ↓eff_buildSlice, ↓eff_call, ↓eff_append, ↓eff_copy, ↓eff_clear, ↓eff_make, ↓reduceIte, ↓c_condI, ↓c_seqH, ↓c_blockH, ↓then_nH, ↓then_rH, ↓then_eH, ↓block_nH, ↓block_rH, ↓block_eH, go_sem, drawW_n, drawW_0, drawW_1, drawW_2, drawW_3, pend_n, pend_c, headD_c, isStore_s, qM.1, qM.2.1, qM.2.2, d1, hgr, d3, hgq, d5, hgj, List.length_map]
            rw [dk_eff]
            refine ⟨.slice .full 1 [i64 x], ?_, ?_⟩
            · simp -implicitDefEqProofs (maxSteps := 2000000) only [↓ops_nil, ↓ops_none, ↓ops_some, ↓kd_eff, ↓dr_nil, ↓dr_cons, ↓d1_none, ↓d1_some, ↓eff_store, ↓eff_box, ↓eff_alloc, ↓eff_build, ↓eff_buildSlice, ↓eff_call, ↓eff_append, ↓eff_copy, ↓eff_clear, ↓eff_make, ↓reduceIte, ↓c_condI, ↓c_seqH, ↓c_blockH, ↓then_nH, ↓then_rH, ↓then_eH, ↓block_nH, ↓block_rH, ↓block_eH, go_sem]
              exact ⟨⟨[], by simp⟩, ids_i64s _ .full (.inr rfl) [x], .inl rfl⟩
            simp -implicitDefEqProofs (maxSteps := 2000000) only [↓ops_nil, ↓ops_none, ↓ops_some, ↓kd_eff, ↓dr_nil, ↓dr_cons, ↓d1_none, ↓d1_some, ↓eff_store, ↓eff_box, ↓eff_alloc, ↓eff_build, ↓eff_buildSlice, ↓eff_call, ↓eff_append, ↓eff_copy, ↓eff_clear, ↓eff_make, ↓reduceIte, ↓c_condI, ↓c_seqH, ↓c_blockH, ↓then_nH, ↓then_rH, ↓then_eH, ↓block_nH, ↓block_rH, ↓block_eH, go_sem, drawW_n, drawW_0, drawW_1, drawW_2, drawW_3, pend_n, pend_c, headD_c, isStore_s, hlj, qMt, List.length_map]
            obtain ⟨S2, hS2⟩ : ∃ S2, s.set (M + 1) (.tok (vp + 1)) = S2 := ⟨_, rfl⟩
            have r1 := cells_facts (show S2[M]? = _ from by rw [← hS2, set_get_ne (by omega)]; exact hM6)
            refine ⟨_, S2, ⟨happ, rfl, hS2⟩, ?_⟩
            simp -implicitDefEqProofs (maxSteps := 2000000) only [↓ops_nil, ↓ops_none, ↓ops_some, ↓kd_eff, ↓dr_nil, ↓dr_cons, ↓d1_none, ↓d1_some, ↓eff_store, ↓eff_box, ↓eff_alloc, ↓eff_build, ↓eff_buildSlice, ↓eff_call, ↓eff_append, ↓eff_copy, ↓eff_clear, ↓eff_make, ↓reduceIte, ↓c_condI, ↓c_seqH, ↓c_blockH, ↓then_nH, ↓then_rH, ↓then_eH, ↓block_nH, ↓block_rH, ↓block_eH, go_sem, r1.1, r1.2.1, r1.2.2, hwj]
            refine ⟨b6 - 1, [.any, .any, .ref [i64 c.kind, i64 c.number, str c.text, .slice .imm 9 (c.kids.map ciSV), i64 c.row, .slice .imm 1 (c.path.map i64), .slice .imm 6 c.cs, .slice .imm 4 c.rs, .slice .imm 1 (c.binds.map bnsSV)], .any, .ptr st.length 0, .ptr (st.length + 1) 0, .any, i64 r, .slice (.own TT vt) 2 (((row.take q).map cutB).map bnSV), i64 q, .ptr M 0, i64 ((jj + 1 : Nat) : Int), .any, .any, .any, .any, .any, .any, .any, .any, .any, .any, .any, .any, .any, .any, .any, .any, .any, .any, .any, .any, .any, .any, .any, .any, .any, .any, .any, .any, .any, .any, .any, .any, .any, .any, .any, .any, .any, .any, .any, .any, .any, .any, .any, .any, .any, .any, .any, .any, .any, .any, .any, .any, .any, .any, .any, .any, .any, .any, .any, .any, .any, .any, .any, .any, .any, .any, .any, .any, .any, .any, .any, .any, .any, .any, .any, .any, .any, .any, .any, .any, .any, .any, .any, .any, .any, .any, .any, .any, .any, .any, .any, .any, .any, .any, .any, .any, .any, .any, .any, .any, .any, .any, .any, .any, .any, .any, .any, .any, .any, .any, .any, .any, .any, .any, .any, .any, .any, .any, .any, .any, .any, .any, .any, .any], by omega, ?_, jj + 1, vp + 1, by omega, by omega, ?_, ?_, ?_, ?_, rfl⟩
            · repeat (first | exact leEnv_nil | refine leEnv_any _ ?_ | refine leEnv_same _ ?_ | refine leEnv_norm _ ?_)
            · rw [← hS2]; exact (I.set (by omega) _).set (by omega) _
            · rw [set_get_ne (by omega), ← hS2, set_get_ne (by omega)]; exact hT
            · rw [set_get (by rw [← hS2]; simpa using lt_of_get hM6), hpp]
            · rw [set_get_ne (by omega), ← hS2, set_get (lt_of_get hM7)]
          have hcb : bnSV (cutB bn) = .agg [i64 bn.loc, .slice .imm 1 ((bn.path.take jj).map i64)] := by
            have : bn.path.take 3 = bn.path.take jj := by
              rcases (show jj = bn.path.length ∨ jj = 3 by omega) with rfl | rfl
              · rw [List.take_length, List.take_of_length_le (by omega)]
              · rfl
            unfold cutB bnSV
            rw [this]
          have happ := Try.app45 (n := q + 1) (by omega)
          have hlq : (row.take q).length = q := by simp; omega
          have hbn2 : ((row.take (q + 1)).map cutB).map bnSV = ((row.take q).map cutB).map bnSV ++ [.agg [i64 bn.loc, .slice .imm 1 ((bn.path.take jj).map i64)]] := by rw [hbn, List.map_append, ← hcb]; rfl
          by_cases h5 : jj < bn.path.length
          · have d5 : (jj : Int) < (bn.path.length : Int) := by omega
            have d6 : ¬ (jj : Int) < 3 := by omega
            simp -implicitDefEqProofs (maxSteps := 2000000) only [↓ops_nil, ↓ops_none, ↓ops_some, ↓kd_eff, ↓dr_nil, ↓dr_cons, ↓d1_none, ↓d1_some, ↓eff_store, ↓eff_box, ↓eff_alloc, ↓eff_build, ↓eff_buildSlice, ↓eff_call, ↓eff_append, ↓eff_copy, ↓eff_clear, ↓eff_make, ↓reduceIte, ↓c_condI, ↓c_seqH, ↓c_blockH, ↓then_nH, ↓then_rH, ↓then_eH, ↓block_nH, ↓block_rH, ↓block_eH, go_sem, d1, hgr, d3, hgq, d5, d6, List.length_map, qM.1, qM.2.1, qM.2.2, qT, hlq, hwq]
            refine ⟨happ, b4 - 1, [.any, .any, .ref [i64 c.kind, i64 c.number, str c.text, .slice .imm 9 (c.kids.map ciSV), i64 c.row, .slice .imm 1 (c.path.map i64), .slice .imm 6 c.cs, .slice .imm 4 c.rs, .slice .imm 1 (c.binds.map bnsSV)], .any, .ptr st.length 0, .ptr (st.length + 1) 0, .any, i64 r, .slice (.own TT (vt + 1)) 2 (((row.take q).map cutB).map bnSV ++ [.agg [i64 bn.loc, .slice .imm 1 ((bn.path.take jj).map i64)]]), i64 ((q + 1 : Nat) : Int), .any, .any, .any, .any, .any, .any, .any, .any, .any, .any, .any, .any, .any, .any, .any, .any, .any, .any, .any, .any, .any, .any, .any, .any, .any, .any, .any, .any, .any, .any, .any, .any, .any, .any, .any, .any, .any, .any, .any, .any, .any, .any, .any, .any, .any, .any, .any, .any, .any, .any, .any, .any, .any, .any, .any, .any, .any, .any, .any, .any, .any, .any, .any, .any, .any, .any, .any, .any, .any, .any, .any, .any, .any, .any, .any, .any, .any, .any, .any, .any, .any, .any, .any, .any, .any, .any, .any, .any, .any, .any, .any, .any, .any, .any, .any, .any, .any, .any, .any, .any, .any, .any, .any, .any, .any, .any, .any, .any, .any, .any, .any, .any, .any, .any, .any, .any, .any, .any, .any, .any, .any, .any, .any, .any, .any, .any], by omega, ?_, q + 1, vt + 1, by omega, by omega, I.set (by omega) _, set_get (lt_of_get hT), by rw [hbn2]⟩
            repeat (first | exact leEnv_nil | refine leEnv_any _ ?_ | refine leEnv_same _ ?_ | refine leEnv_norm _ ?_)
          · have d5 : ¬ (jj : Int) < (bn.path.length : Int) := by omega
            simp -implicitDefEqProofs (maxSteps := 2000000) only [↓ops_nil, ↓ops_none, ↓ops_some, ↓kd_eff, ↓dr_nil, ↓dr_cons, ↓d1_none, ↓d1_some, ↓eff_store, ↓eff_box, ↓eff_alloc, ↓eff_build, ↓eff_buildSlice, ↓eff_call, ↓eff_append, ↓eff_copy, ↓eff_clear, ↓eff_make, ↓reduceIte, ↓c_condI, ↓c_seqH, ↓c_blockH, ↓then_nH, ↓then_rH, ↓then_eH, ↓block_nH, ↓block_rH, ↓block_eH, go_sem, d1, hgr, d3, hgq, d5, List.length_map, qM.1, qM.2.1, qM.2.2, qT, hlq, hwq]
            refine ⟨happ, b4 - 1, [.any, .any, .ref [i64 c.kind, i64 c.number, str c.text, .slice .imm 9 (c.kids.map ciSV), i64 c.row, .slice .imm 1 (c.path.map i64), .slice .imm 6 c.cs, .slice .imm 4 c.rs, .slice .imm 1 (c.binds.map bnsSV)], .any, .ptr st.length 0, .ptr (st.length + 1) 0, .any, i64 r, .slice (.own TT (vt + 1)) 2 (((row.take q).map cutB).map bnSV ++ [.agg [i64 bn.loc, .slice .imm 1 ((bn.path.take jj).map i64)]]), i64 ((q + 1 : Nat) : Int), .any, .any, .any, .any, .any, .any, .any, .any, .any, .any, .any, .any, .any, .any, .any, .any, .any, .any, .any, .any, .any, .any, .any, .any, .any, .any, .any, .any, .any, .any, .any, .any, .any, .any, .any, .any, .any, .any, .any, .any, .any, .any, .any, .any, .any, .any, .any, .any, .any, .any, .any, .any, .any, .any, .any, .any, .any, .any, .any, .any, .any, .any, .any, .any, .any, .any, .any, .any, .any, .any, .any, .any, .any, .any, .any, .any, .any, .any, .any, .any, .any, .any, .any, .any, .any, .any, .any, .any, .any, .any, .any, .any, .any, .any, .any, .any, .any, .any, .any, .any, .any, .any, .any, .any, .any, .any, .any, .any, .any, .any, .any, .any, .any, .any, .any, .any, .any, .any, .any, .any, .any, .any, .any, .any, .any, .any], by omega, ?_, q + 1, vt + 1, by omega, by omega, I.set (by omega) _, set_get (lt_of_get hT), by rw [hbn2]⟩
            repeat (first | exact leEnv_nil | refine leEnv_any _ ?_ | refine leEnv_same _ ?_ | refine leEnv_norm _ ?_)
        have happ := Try.app29 (n := r + 1) (by omega)
        have hlr : (c.binds.take r).length = r := by simp; omega
        have hqq : (row.take q).map cutB = (row.take 3).map cutB := by
          rcases (show q = row.length ∨ q = 3 by omega) with rfl | rfl
          · rw [List.take_length, List.take_of_length_le (by omega)]
          · rfl
        have hr2 : ((c.binds.take (r + 1)).map fun l => (l.take 3).map cutB).map bnsSV = ((c.binds.take r).map fun l => (l.take 3).map cutB).map bnsSV ++ [.slice .imm 2 (((row.take q).map cutB).map bnSV)] := by rw [hrow, List.map_append, hqq]; rfl
        obtain ⟨S2, hS2⟩ : ∃ S2, s.set (st.length + 3) (.tok (v2 + 1)) = S2 := ⟨_, rfl⟩
        have hl3 := lt_of_get I.t2
        have hl1 := lt_of_get I.ob
        have r1 := cells_facts (show S2[st.length + 1]? = _ from by rw [← hS2, set_get_ne (by omega)]; exact I.ob)
        have I' : CutA st c (cutKs d c) ((c.binds.take (r + 1)).map fun l => (l.take 3).map cutB) v1 (v2 + 1) (S2.set (st.length + 1) (.cells [i64 c.kind, i64 c.number, str (cutT c.text), .slice (.own (st.length + 2) v1) 9 ((cutKs d c).map coSV), i64 0, .slice .full 0 [], .slice .full 0 [], .slice .full 0 [], .slice (.own (st.length + 3) (v2 + 1)) 1 (((c.binds.take r).map fun l => (l.take 3).map cutB).map bnsSV ++ [.slice .imm 2 (((row.take q).map cutB).map bnSV)])])) := by
          refine ⟨?_, ?_, ?_, ?_, ?_⟩
          · rw [set_get_ne (by omega), ← hS2, set_get_ne (by omega)]; exact I.res
          · rw [set_get (by rw [← hS2]; simpa using hl1), hr2]
          · rw [set_get_ne (by omega), ← hS2, set_get_ne (by omega)]; exact I.t1
          · rw [set_get_ne (by omega), ← hS2, set_get hl3]
          · rw [← hS2]; exact ex_set (ex_set I.ex (by omega) _) (by omega) _
        by_cases h3 : q < row.length
        · have d3 : (q : Int) < (row.length : Int) := by omega
          have d4 : ¬ (q : Int) < 3 := by omega
          simp -implicitDefEqProofs (maxSteps := 2000000) only [↓ops_nil, ↓ops_none, ↓ops_some, ↓kd_eff, ↓dr_nil, ↓dr_cons, ↓d1_none, ↓d1_some, ↓eff_store, ↓eff_box, ↓eff_alloc, ↓eff_build, ↓eff_buildSlice, ↓eff_call, ↓eff_append, ↓eff_copy, ↓eff_clear, ↓eff_make, ↓reduceIte, ↓c_condI, ↓c_seqH, ↓c_blockH, ↓then_nH, ↓then_rH, ↓then_eH, ↓block_nH, ↓block_rH, ↓block_eH, go_sem, d1, hgr, d3, d4, List.length_map, q1.1, q1.2.1, q1.2.2, qt2, hlr, hw, hS2, r1.1, r1.2.1, r1.2.2]
          refine ⟨happ, b - 1, [.any, .any, .ref [i64 c.kind, i64 c.number, str c.text, .slice .imm 9 (c.kids.map ciSV), i64 c.row, .slice .imm 1 (c.path.map i64), .slice .imm 6 c.cs, .slice .imm 4 c.rs, .slice .imm 1 (c.binds.map bnsSV)], .any, .ptr st.length 0, .ptr (st.length + 1) 0, .any, i64 ((r + 1 : Nat) : Int), .any, .any, .any, .any, .any, .any, .any, .any, .any, .any, .any, .any, .any, .any, .any, .any, .any, .any, .any, .any, .any, .any, .any, .any, .any, .any, .any, .any, .any, .any, .any, .any, .any, .any, .any, .any, .any, .any, .any, .any, .any, .any, .any, .any, .any, .any, .any, .any, .any, .any, .any, .any, .any, .any, .any, .any, .any, .any, .any, .any, .any, .any, .any, .any, .any, .any, .any, .any, .any, .any, .any, .any, .any, .any, .any, .any, .any, .any, .any, .any, .any, .any, .any, .any, .any, .any, .any, .any, .any, .any, .any, .any, .any, .any, .any, .any, .any, .any, .any, .any, .any, .any, .any, .any, .any, .any, .any, .any, .any, .any, .any, .any, .any, .any, .any, .any, .any, .any, .any, .any, .any, .any, .any, .any, .any, .any, .any, .any], by omega, ?_, r + 1, v2 + 1, v1, by omega, by omega, I', rfl⟩
          repeat (first | exact leEnv_nil | refine leEnv_any _ ?_ | refine leEnv_same _ ?_ | refine leEnv_norm _ ?_)
        · have d3 : ¬ (q : Int) < (row.length : Int) := by omega
          simp -implicitDefEqProofs (maxSteps := 2000000) only [↓ops_nil, ↓ops_none, ↓ops_some, ↓kd_eff, ↓dr_nil, ↓dr_cons, ↓d1_none, ↓d1_some, ↓eff_store, ↓eff_box, ↓eff_alloc, ↓eff_build, ↓eff_buildSlice, ↓eff_call, ↓eff_append, ↓eff_copy, ↓eff_clear, ↓eff_make, ↓reduceIte, ↓c_condI, ↓c_seqH, ↓c_blockH, ↓then_nH, ↓then_rH, ↓then_eH, ↓block_nH, ↓block_rH, ↓block_eH, go_sem, d1, hgr, d3, List.length_map, q1.1, q1.2.1, q1.2.2, qt2, hlr, hw, hS2, r1.1, r1.2.1, r1.2.2]
          refine ⟨happ, b - 1, [.any, .any, .ref [i64 c.kind, i64 c.number, str c.text, .slice .imm 9 (c.kids.map ciSV), i64 c.row, .slice .imm 1 (c.path.map i64), .slice .imm 6 c.cs, .slice .imm 4 c.rs, .slice .imm 1 (c.binds.map bnsSV)], .any, .ptr st.length 0, .ptr (st.length + 1) 0, .any, i64 ((r + 1 : Nat) : Int), .any, .any, .any, .any, .any, .any, .any, .any, .any, .any, .any, .any, .any, .any, .any, .any, .any, .any, .any, .any, .any, .any, .any, .any, .any, .any, .any, .any, .any, .any, .any, .any, .any, .any, .any, .any, .any, .any, .any, .any, .any, .any, .any, .any, .any, .any, .any, .any, .any, .any, .any, .any, .any, .any, .any, .any, .any, .any, .any, .any, .any, .any, .any, .any, .any, .any, .any, .any, .any, .any, .any, .any, .any, .any, .any, .any, .any, .any, .any, .any, .any, .any, .any, .any, .any, .any, .any, .any, .any, .any, .any, .any, .any, .any, .any, .any, .any, .any, .any, .any, .any, .any, .any, .any, .any, .any, .any, .any, .any, .any, .any, .any, .any, .any, .any, .any, .any, .any, .any, .any, .any, .any, .any, .any, .any, .any, .any, .any], by omega, ?_, r + 1, v2 + 1, v1, by omega, by omega, I', rfl⟩
          repeat (first | exact leEnv_nil | refine leEnv_any _ ?_ | refine leEnv_same _ ?_ | refine leEnv_norm _ ?_)
      · have hbb : (c.binds.take r).map (fun l => (l.take 3).map cutB) = cutBs c.binds := by
          unfold cutBs
          rcases (show r = c.binds.length ∨ r = 3 by omega) with rfl | rfl
          · rw [List.take_length, List.take_of_length_le (by omega)]
          · rfl
        rw [hbb] at I q1
        have q0 := cells_facts I.res
        have hl0 := lt_of_get I.res
        have hN : ¬ (st.length = st.length + 1) := by omega
        have r0 : ∀ (X : List SV), inS (s.set st.length (.cells X)) st.length = True ∧ isObj (s.set st.length (.cells X)) st.length = True ∧ objAt (s.set st.length (.cells X)) st.length = X := fun X => cells_facts (set_get hl0)
        have hfin : ∀ s', (∃ ex, s' = st ++ ex) → FinV st K (.agg [i64 c.kind, i64 c.number, str (cutT c.text), .slice (.own (st.length + 2) v1) 9 ((cutKs d c).map coSV), i64 0, .slice .full 0 [], .slice .full 0 [], .slice .full 0 [], .slice (.own (st.length + 3) v2) 1 ((cutBs c.binds).map bnsSV)]) s' := fun s' hex => by
          refine ⟨coSV (cutI d c), ?_, hex, ids_co _ _, h⟩
          rw [cutI_eq, coSV_eq]
          exact SVle.agg (.cons (SVle.refl _) (.cons (SVle.refl _) (.cons (SVle.refl _) (.cons (sle_norm _) (.cons (SVle.refl _) (.cons (sle_slice (fun h => absurd rfl h) (.inr rfl)) (.cons (sle_slice (fun h => absurd rfl h) (.inr rfl)) (.cons (sle_slice (fun h => absurd rfl h) (.inr rfl)) (.cons (sle_norm _) .nil)))))))))
        by_cases h1 : r < c.binds.length
        · have d1 : (r : Int) < (c.binds.length : Int) := by omega
          have d2 : ¬ (r : Int) < 3 := by omega
          simp -implicitDefEqProofs (maxSteps := 2000000) only [↓ops_nil, ↓ops_none, ↓ops_some, ↓kd_eff, ↓dr_nil, ↓dr_cons, ↓d1_none, ↓d1_some, ↓eff_store, ↓eff_box, ↓eff_alloc, ↓eff_build, ↓eff_buildSlice, ↓eff_call, ↓eff_append, ↓eff_copy, ↓eff_clear, ↓eff_make, ↓reduceIte, ↓c_condI, ↓c_seqH, ↓c_blockH, ↓then_nH, ↓then_rH, ↓then_eH, ↓block_nH, ↓block_rH, ↓block_eH, go_sem, d1, d2, List.length_map, q1.1, q1.2.1, q1.2.2, q0.1, q0.2.1, q0.2.2, r0]
          exact hfin _ (ex_set I.ex (Nat.le_refl _) _)
        · have d1 : ¬ (r : Int) < (c.binds.length : Int) := by omega
          simp -implicitDefEqProofs (maxSteps := 2000000) only [↓ops_nil, ↓ops_none, ↓ops_some, ↓kd_eff, ↓dr_nil, ↓dr_cons, ↓d1_none, ↓d1_some, ↓eff_store, ↓eff_box, ↓eff_alloc, ↓eff_build, ↓eff_buildSlice, ↓eff_call, ↓eff_append, ↓eff_copy, ↓eff_clear, ↓eff_make, ↓reduceIte, ↓c_condI, ↓c_seqH, ↓c_blockH, ↓then_nH, ↓then_rH, ↓then_eH, ↓block_nH, ↓block_rH, ↓block_eH, go_sem, d1, List.length_map, q1.1, q1.2.1, q1.2.2, q0.1, q0.2.1, q0.2.2, r0]
          exact hfin _ (ex_set I.ex (Nat.le_refl _) _)
theorem cut_c : ∀ (d : Nat), d ≤ 1000 → ∀ (c : CI) (K : SV → St → Prop) (st : St), K (coSV (cutI d c)) st → ACalls Try.prog 4 [ciSV c, i64 d] K st := by
  intro d
  induction d with
  | zero => exact fun hd c K st h => cut_step 0 hd (fun d' e => by cases e) c K st h
  | succ d ih => exact fun hd c K st h => cut_step (d + 1) hd (fun d' e => by cases e; exact ih (by omega)) c K st h
end Go.Proofs
