/- TypesOne: the walk. -/
import Derived.Test.YteclbnjpijakbaaDoorM13
set_option linter.unusedSimpArgs false
set_option linter.unusedVariables false
set_option maxRecDepth 8000
namespace Go.Proofs
open Go Go.AL

def B0 : Bd := fun _ => none
theorem rg0 : RG 6 B0 :=
  ⟨⟨fun v hv => ⟨1, en_free hv rfl⟩, fun v b h => by cases h⟩, fun v b h => (by cases h), fun v b h => by cases h⟩
theorem begun_ps {st s : St} (h : Begun st s 6) : ES s (st.length + 1) st.length B0 ∧ RS s (st.length + 2) B0 := by
  obtain ⟨va, vb, hr⟩ := h.ref
  have e1 : gmGet ([] : List (Int × Ty)) = B0 := rfl
  have e2 : gR (List.replicate 6 none) = B0 := by
    funext v
    unfold gR
    split
    · rw [List.getD_eq_getElem?_getD, List.getElem?_replicate]
      split <;> rfl
    · rfl
  refine ⟨⟨[], ⟨h.own, h.bound⟩, ⟨?_, ?_, ?_⟩, e1⟩, ⟨_, _, va, vb, _, hr, by simp, e2, rg0⟩⟩
  · rw [e1]; exact rg0.bg
  · rw [e1]; exact rg0.sm
  · rw [e1]; exact rg0.nm
theorem ES.set {st : St} {eid mid : Nat} {B : Bd} (h : ES st eid mid B) {j : Nat} {o : List SV} (hj : st[j]? = some (.cells o) ∨ st.length ≤ j) (hn : j ≠ eid) (x : Ob) : ES (st.set j x) eid mid B := by
  obtain ⟨M, k1, k2, k3⟩ := h.ex
  have hm : j ≠ mid := by
    rintro rfl
    rcases hj with q | q
    · have := q.symm.trans k1.hm; cases this
    · have := lt_of_get k1.hm; omega
  exact ⟨M, ⟨by rw [List.getElem?_set_ne hn]; exact k1.hid, by rw [List.getElem?_set_ne hm]; exact k1.hm⟩, k2, k3⟩
theorem apE_c {st : St} {eid mid : Nat} {B : Bd} (h : ES st eid mid B) (t : Ty) (K : SV → St → Prop) (hk : K (tySV (ApT 6 B t)) st) : ACalls Tryd.prog 11 [.ptr eid 0, tySV t] K st := by
  obtain ⟨M, h1, h2, rfl⟩ := h.ex
  exact Apply_c h2.bg.ends h2.bg.gp.gb t K st h1 hk
theorem six_good : goodB (ownP 6) sixT = true := by
  have h : ∀ v : Int, 1 ≤ v → v ≤ 6 → goodB (ownP 6) (mkv v) = true := fun v h1 h2 => by
    have h0 : v ≠ 0 := by omega
    rw [goodB_eq]
    show (if v = 0 then _ else (ByteArray.toList ⟨#[]⟩ == ByteArray.toList ⟨#[]⟩) && (([] : List Ty).length == 0) && ownP 6 v) = true
    rw [if_neg h0]
    unfold ownP
    simp [h1, h2]
  rw [goodB_eq]
  show (if (0 : Int) = 0 then !(ByteArray.toList ⟨#[115, 105, 120]⟩ == ByteArray.toList ⟨#[]⟩) && goodL (ownP 6) [mkv 1, mkv 2, mkv 3, mkv 4, mkv 5, mkv 6] else _) = true
  rw [if_pos rfl]
  have : (ByteArray.toList ⟨#[115, 105, 120]⟩ == ByteArray.toList ⟨#[]⟩) = false := by decide +kernel
  rw [this]
  simp [goodL, h]
theorem six_nm : nmB sixT = true := by rfl
/-- Six as it is shown. -/
noncomputable def sixS (B : Bd) : ByteArray := showA (ApT 6 B sixT)
theorem nm_p {a b : Ty} (ha : nmB a = true) (hb : nmB b = true) : nmB (pT a b) = true := by
  rw [nmB_eq]
  show (decide ((⟨#[112]⟩ : ByteArray).size ≤ 8) && nmL [a, b]) = true
  simp [nmL, ha, hb]
  decide

set_option maxHeartbeats 8000000 in
theorem typesOne_c (ps : List (Ty × Ty)) (hps : ps.length ≤ 9223372036854775807) (a b : Ty) (K : SV → St → Prop) (st : St) (h : ∀ s, K (.sc (.bool true)) s) :
    ACalls Tryd.prog 3 [.slice .imm 6 (ps.map prT), tySV a, tySV b] K st := by
  refine acalls_goA Tryd.func3 rfl Tryd.results3 Tryd.ntmps3 ?_
  have hca := cells_ty a
  have hcb := cells_ty b
  obtain ⟨s1, hs1⟩ : ∃ s1, st ++ [Ob.cells (tySV a).cells, Ob.cells (tySV b).cells] = s1 := ⟨_, rfl⟩
  obtain ⟨p, hp⟩ : ∃ p, st.length = p := ⟨_, rfl⟩
  have e0 : s1[p]? = some (.cells [.sc (.int .i64 a.v), .sc (.string a.name), .slice .imm 3 (a.args.map tySV)]) := by rw [← hs1, ← hp, ← hca]; simp
  have e1 : s1[p + 1]? = some (.cells [.sc (.int .i64 b.v), .sc (.string b.name), .slice .imm 3 (b.args.map tySV)]) := by rw [← hs1, ← hp, ← hcb]; exact get_app1 st _ _
  have hl1 : s1.length = p + 2 := by rw [← hs1, ← hp]; simp
  refine awp_seq (AWp.mono (Q := fun e env s => e = .normal ∧ LeEnv env [.slice .imm 6 (ps.map prT), .any, .any, .any, .ptr p 0, .ptr (p + 1) 0, .any, .any, .any, .any, .any, .any, .any, .any, .any, .any, .any, .any, .any, .any, .any, .any, .any, .any, .any, .any, .any, .any, .any, .any, .any, .any, .any, .any, .any, .any, .any, .any, .any, .any, .any, .any, .any, .any, .any, .any, .any, .any, .any, .any, .any, .any, .any, .any, .any, .any, .any, .any, .any, .any, .any, .any, .any, .any, .any, .any, .any, .any, .any, .any, .any, .any, .any, .any, .any, .any, .any, .any, .any, .any, .any, .any, .any, .any, .any, .any, .any, .any] ∧ s = s1) ?_ ?_)
  · refine awp_c (M := [4, 5]) ?_
    simp only [go_sem, reduceCtorEq, Nat.reduceAdd, Nat.reduceMul, Nat.reduceLeDiff, Nat.reduceLT, Int.reduceLE, Int.reduceLT, Int.reduceEq, Nat.reduceBEq, Nat.reduceEqDiff, hs1, hp]
    repeat (first | exact leEnv_nil | refine leEnv_any _ ?_ | refine leEnv_same _ ?_ | refine leEnv_norm _ ?_)
  rintro e env s ⟨rfl, hle, rfl⟩
  show AWp _ _ _ _ _
  refine awp_weaken hle ?_
  clear hle env
  refine awp_seq (AWp.mono (Q := fun e env s' => e = .normal ∧ LeEnv env [.slice .imm 6 (ps.map prT), .any, .any, .any, .ptr p 0, .ptr (p + 1) 0, .any, .ptr (p + 3) 0, .ptr (p + 4) 0, .any, .any, .any, .any, .any, .any, .any, .any, .any, .any, .any, .any, .any, .any, .any, .any, .any, .any, .any, .any, .any, .any, .any, .any, .any, .any, .any, .any, .any, .any, .any, .any, .any, .any, .any, .any, .any, .any, .any, .any, .any, .any, .any, .any, .any, .any, .any, .any, .any, .any, .any, .any, .any, .any, .any, .any, .any, .any, .any, .any, .any, .any, .any, .any, .any, .any, .any, .any, .any, .any, .any, .any, .any, .any, .any, .any, .any, .any, .any] ∧ Begun s s' 6) ?_ ?_)
  · refine awp_c (M := []) ?_
    simp only [go_sem, reduceCtorEq, Nat.reduceAdd, Nat.reduceMul, Nat.reduceLeDiff, Nat.reduceLT, Int.reduceLE, Int.reduceLT, Int.reduceEq, Nat.reduceBEq, Nat.reduceEqDiff]
    refine begin_c _ _ fun s' hB => ?_
    simp only [go_sem, reduceCtorEq, Nat.reduceAdd, Nat.reduceMul, Nat.reduceLeDiff, Nat.reduceLT, Int.reduceLE, Int.reduceLT, Int.reduceEq, Nat.reduceBEq, Nat.reduceEqDiff, hl1]
    refine ⟨?_, hB⟩
    repeat (first | exact leEnv_nil | refine leEnv_any _ ?_ | refine leEnv_same _ ?_ | refine leEnv_norm _ ?_)
  rintro e env s' ⟨rfl, hle, hB⟩
  show AWp _ _ _ _ _
  refine awp_weaken hle ?_
  clear hle env
  obtain ⟨hE, hR⟩ := begun_ps hB
  rw [hl1] at hE hR
  have f0 := (hB.old p (by omega)).trans e0
  have f1 := (hB.old (p + 1) (by omega)).trans e1
  clear hB e0 e1 hs1 hl1
  refine awp_seq (AWp.mono (Q := fun e env s => e = .normal ∧ LeEnv env [.slice .imm 6 (ps.map prT), .any, .any, .any, .ptr p 0, .ptr (p + 1) 0, .any, .ptr (p + 3) 0, .ptr (p + 4) 0, .any, .any, .any, .any, .any, .any, .any, .any, .any, .any, .any, .any, .any, .any, .any, .any, .any, .any, .any, .any, .any, .any, .any, .any, .any, .any, .any, .any, .any, .any, .any, .any, .any, .any, .any, .any, .any, .any, .any, .any, .any, .any, .any, .any, .any, .any, .any, .any, .any, .any, .any, .any, .any, .any, .any, .any, .any, .any, .any, .any, .any, .any, .any, .any, .any, .any, .any, .any, .any, .any, .any, .any, .any, .any, .any, .any, .any, .any, .any] ∧ s = s') ?_ ?_)
  · refine awp_c (M := []) ?_
    simp only [go_sem, reduceCtorEq, Nat.reduceAdd, Nat.reduceMul, Nat.reduceLeDiff, Nat.reduceLT, Int.reduceLE, Int.reduceLT, Int.reduceEq, Nat.reduceBEq, Nat.reduceEqDiff]
    repeat (first | exact leEnv_nil | refine leEnv_any _ ?_ | refine leEnv_same _ ?_ | refine leEnv_norm _ ?_)
  rintro e env s ⟨rfl, hle, rfl⟩
  show AWp _ _ _ _ _
  refine awp_weaken hle ?_
  clear hle env
  refine awp_seq (AWp.mono (Q := fun e env s' => e = .normal ∧ LeEnv env [.any, .any, .any, .any, .ptr p 0, .ptr (p + 1) 0, .any, .ptr (p + 3) 0, .any, .any, .any, .any, .any, .any, .any, .any, .any, .any, .any, .any, .any, .any, .any, .any, .any, .any, .any, .any, .any, .any, .any, .any, .any, .any, .any, .any, .any, .any, .any, .any, .any, .any, .any, .any, .any, .any, .any, .any, .any, .any, .any, .any, .any, .any, .any, .any, .any, .any, .any, .any, .any, .any, .any, .any, .any, .any, .any, .any, .any, .any, .any, .any, .any, .any, .any, .any, .any, .any, .any, .any, .any, .any, .any, .any, .any, .any, .any, .any] ∧ ∃ mid B, ES s' (p + 3) mid B ∧ s'[p]? = some (.cells [.sc (.int .i64 a.v), .sc (.string a.name), .slice .imm 3 (a.args.map tySV)]) ∧ s'[p + 1]? = some (.cells [.sc (.int .i64 b.v), .sc (.string b.name), .slice .imm 3 (b.args.map tySV)])) ?_ ?_)
  · refine awp_c (M := []) ?_
    simp only [go_sem, reduceCtorEq, Nat.reduceAdd, Nat.reduceMul, Nat.reduceLeDiff, Nat.reduceLT, Int.reduceLE, Int.reduceLT, Int.reduceEq, Nat.reduceBEq, Nat.reduceEqDiff]
    refine plays_c (by omega) ps hps s hE hR _ fun s' mid B k1 k2 k3 k4 => ?_
    simp only [go_sem, reduceCtorEq, Nat.reduceAdd, Nat.reduceMul, Nat.reduceLeDiff, Nat.reduceLT, Int.reduceLE, Int.reduceLT, Int.reduceEq, Nat.reduceBEq, Nat.reduceEqDiff]
    refine ⟨?_, mid, B, k1, k4 _ _ f0 (by omega) (by omega), k4 _ _ f1 (by omega) (by omega)⟩
    repeat (first | exact leEnv_nil | refine leEnv_any _ ?_ | refine leEnv_same _ ?_ | refine leEnv_norm _ ?_)
  rintro e env s0 ⟨rfl, hle, mid, B, hE0, g0, g1⟩
  show AWp _ _ _ _ _
  refine awp_weaken hle ?_
  clear hle env
  clear hE hR f0 f1
  obtain ⟨a', ha'⟩ : ∃ a', cutT 6 a = a' := ⟨_, rfl⟩
  obtain ⟨b', hb'⟩ : ∃ b', cutT 6 b = b' := ⟨_, rfl⟩
  have na : nmB a' = true := by rw [← ha']; exact cut_nm _ _
  have nb : nmB b' = true := by rw [← hb']; exact cut_nm _ _
  have hdl : ∀ a b c : SV, List.drop 3 [a, b, c] = [] := fun _ _ _ => rfl
  have hca' := cells_ty a'
  have hcb' := cells_ty b'
  refine awp_seq (AWp.mono (Q := fun e env s' => e = .normal ∧ LeEnv env [.any, .any, .any, .any, .ptr p 0, .ptr (p + 1) 0, .any, .ptr (p + 3) 0, .any, .any, .any, .any, .any, .any, .any, .any, .any, .any, .any, .any, .any, .any, .any, .any, .any, .any, .any, .any, .any, .any, .any, .any, .any, .any, .any, .any, .any, .any, .any, .any, .any, .any, .any, .any, .any, .any, .any, .any, .any, .any, .any, .any, .any, .any, .any, .any, .any, .any, .any, .any, .any, .any, .any, .any, .any, .any, .any, .any, .any, .any, .any, .any, .any, .any, .any, .any, .any, .any, .any, .any, .any, .any, .any, .any, .any, .any, .any, .any] ∧ ES s' (p + 3) mid B ∧ s'[p]? = some (.cells [.sc (.int .i64 a'.v), .sc (.string a'.name), .slice .imm 3 (a'.args.map tySV)]) ∧ s'[p + 1]? = some (.cells [.sc (.int .i64 b.v), .sc (.string b.name), .slice .imm 3 (b.args.map tySV)])) ?_ ?_)
  · refine awp_c (M := []) ?_
    have f := cells_facts g0
    have hc := fun K h => cut_c 6 (by omega) a K s0 h
    rw [ha', tySV_eq a] at hc
    simp only [go_sem, reduceCtorEq, Nat.reduceAdd, Nat.reduceMul, Nat.reduceLeDiff, Nat.reduceLT, Int.reduceLE, Int.reduceLT, Int.reduceEq, Nat.reduceBEq, Nat.reduceEqDiff, f.1, f.2.1, f.2.2]
    refine hc _ ?_
    simp only [go_sem, reduceCtorEq, Nat.reduceAdd, Nat.reduceMul, Nat.reduceLeDiff, Nat.reduceLT, Int.reduceLE, Int.reduceLT, Int.reduceEq, Nat.reduceBEq, Nat.reduceEqDiff, f.1, f.2.1, f.2.2, hca', hdl, List.length_cons, List.length_nil]
    refine ⟨?_, hE0.set (.inl g0) (by omega) _, List.getElem?_set_self (lt_of_get g0), (List.getElem?_set_ne (by omega)).trans g1⟩
    repeat (first | exact leEnv_nil | refine leEnv_any _ ?_ | refine leEnv_same _ ?_ | refine leEnv_norm _ ?_)
  rintro e env s2 ⟨rfl, hle, hE2, q0, q1⟩
  show AWp _ _ _ _ _
  refine awp_weaken hle ?_
  clear hle env
  refine awp_seq (AWp.mono (Q := fun e env s' => e = .normal ∧ LeEnv env [.any, .any, .any, .any, .ptr p 0, .ptr (p + 1) 0, .any, .ptr (p + 3) 0, .any, .any, .any, .any, .any, .any, .any, .any, .any, .any, .any, .any, .any, .any, .any, .any, .any, .any, .any, .any, .any, .any, .any, .any, .any, .any, .any, .any, .any, .any, .any, .any, .any, .any, .any, .any, .any, .any, .any, .any, .any, .any, .any, .any, .any, .any, .any, .any, .any, .any, .any, .any, .any, .any, .any, .any, .any, .any, .any, .any, .any, .any, .any, .any, .any, .any, .any, .any, .any, .any, .any, .any, .any, .any, .any, .any, .any, .any, .any, .any] ∧ ES s' (p + 3) mid B ∧ s'[p]? = some (.cells [.sc (.int .i64 a'.v), .sc (.string a'.name), .slice .imm 3 (a'.args.map tySV)]) ∧ s'[p + 1]? = some (.cells [.sc (.int .i64 b'.v), .sc (.string b'.name), .slice .imm 3 (b'.args.map tySV)])) ?_ ?_)
  · refine awp_c (M := []) ?_
    have f := cells_facts q1
    have hc := fun K h => cut_c 6 (by omega) b K s2 h
    rw [hb', tySV_eq b] at hc
    simp only [go_sem, reduceCtorEq, Nat.reduceAdd, Nat.reduceMul, Nat.reduceLeDiff, Nat.reduceLT, Int.reduceLE, Int.reduceLT, Int.reduceEq, Nat.reduceBEq, Nat.reduceEqDiff, f.1, f.2.1, f.2.2]
    refine hc _ ?_
    simp only [go_sem, reduceCtorEq, Nat.reduceAdd, Nat.reduceMul, Nat.reduceLeDiff, Nat.reduceLT, Int.reduceLE, Int.reduceLT, Int.reduceEq, Nat.reduceBEq, Nat.reduceEqDiff, f.1, f.2.1, f.2.2, hcb', hdl, List.length_cons, List.length_nil]
    refine ⟨?_, hE2.set (.inl q1) (by omega) _, (List.getElem?_set_ne (by omega)).trans q0, List.getElem?_set_self (lt_of_get q1)⟩
    repeat (first | exact leEnv_nil | refine leEnv_any _ ?_ | refine leEnv_same _ ?_ | refine leEnv_norm _ ?_)
  rintro e env s3 ⟨rfl, hle, hE3, w0, w1⟩
  show AWp _ _ _ _ _
  refine awp_weaken hle ?_
  clear hle env
  clear hE0 g0 g1 hE2 q0 q1
  have hrg := hE3.rg
  refine awp_seq (AWp.mono (Q := fun e env s' => e = .normal ∧ LeEnv env [.any, .any, .any, .any, .ptr p 0, .ptr (p + 1) 0, .any, .ptr (p + 3) 0, .any, .sc (.string (sixS B)), .any, .any, .any, .any, .any, .any, .any, .any, .any, .any, .any, .any, .any, .any, .any, .any, .any, .any, .any, .any, .any, .any, .any, .any, .any, .any, .any, .any, .any, .any, .any, .any, .any, .any, .any, .any, .any, .any, .any, .any, .any, .any, .any, .any, .any, .any, .any, .any, .any, .any, .any, .any, .any, .any, .any, .any, .any, .any, .any, .any, .any, .any, .any, .any, .any, .any, .any, .any, .any, .any, .any, .any, .any, .any, .any, .any, .any, .any] ∧ s' = s3) ?_ ?_)
  · refine awp_c (M := []) ?_
    have h1 := fun K h => apE_c hE3 sixT K h
    have h2 := fun K h => Show_c (ApT 6 B sixT) (shOk_ap hrg six_nm) K s3 h
    simp only [go_sem, reduceCtorEq, Nat.reduceAdd, Nat.reduceMul, Nat.reduceLeDiff, Nat.reduceLT, Int.reduceLE, Int.reduceLT, Int.reduceEq, Nat.reduceBEq, Nat.reduceEqDiff]
    refine six_c _ _ ?_
    simp only [go_sem, reduceCtorEq, Nat.reduceAdd, Nat.reduceMul, Nat.reduceLeDiff, Nat.reduceLT, Int.reduceLE, Int.reduceLT, Int.reduceEq, Nat.reduceBEq, Nat.reduceEqDiff]
    refine h1 _ ?_
    simp only [go_sem, reduceCtorEq, Nat.reduceAdd, Nat.reduceMul, Nat.reduceLeDiff, Nat.reduceLT, Int.reduceLE, Int.reduceLT, Int.reduceEq, Nat.reduceBEq, Nat.reduceEqDiff]
    refine h2 _ ?_
    simp only [go_sem, reduceCtorEq, Nat.reduceAdd, Nat.reduceMul, Nat.reduceLeDiff, Nat.reduceLT, Int.reduceLE, Int.reduceLT, Int.reduceEq, Nat.reduceBEq, Nat.reduceEqDiff]
    unfold sixS
    repeat (first | exact leEnv_nil | refine leEnv_any _ ?_ | refine leEnv_same _ ?_ | refine leEnv_norm _ ?_)
  rintro e env s4 ⟨rfl, hle, rfl⟩
  show AWp _ _ _ _ _
  refine awp_weaken hle ?_
  clear hle env
  have f0 := cells_facts w0
  have f1 := cells_facts w1
  refine awp_seq (AWp.mono (Q := fun ee env s' => ee = .normal ∧ ∃ e mid' B', LeEnv env [.any, .any, .any, .any, .ptr p 0, .ptr (p + 1) 0, .any, .ptr (p + 3) 0, .any, .sc (.string (sixS B)), .sc (.int .i64 e), .any, .any, .any, .any, .any, .any, .any, .any, .any, .any, .any, .any, .any, .any, .any, .any, .any, .any, .any, .any, .any, .any, .any, .any, .any, .any, .any, .any, .any, .any, .any, .any, .any, .any, .any, .any, .any, .any, .any, .any, .any, .any, .any, .any, .any, .any, .any, .any, .any, .any, .any, .any, .any, .any, .any, .any, .any, .any, .any, .any, .any, .any, .any, .any, .any, .any, .any, .any, .any, .any, .any, .any, .any, .any, .any, .any, .any] ∧ UnR 6 B a' b' e B' ∧ ES s' (p + 3) mid' B' ∧ s'[p]? = some (.cells [.sc (.int .i64 a'.v), .sc (.string a'.name), .slice .imm 3 (a'.args.map tySV)]) ∧ s'[p + 1]? = some (.cells [.sc (.int .i64 b'.v), .sc (.string b'.name), .slice .imm 3 (b'.args.map tySV)])) ?_ ?_)
  · refine awp_c (M := []) ?_
    have hu := fun K h => uniE_c hE3 a' b' na nb K h
    rw [tySV_eq a', tySV_eq b'] at hu
    simp only [go_sem, reduceCtorEq, Nat.reduceAdd, Nat.reduceMul, Nat.reduceLeDiff, Nat.reduceLT, Int.reduceLE, Int.reduceLT, Int.reduceEq, Nat.reduceBEq, Nat.reduceEqDiff, f0.1, f0.2.1, f0.2.2, f1.1, f1.2.1, f1.2.2]
    refine hu _ fun e s5 mid' B' u1 u2 u3 u4 => ?_
    simp only [go_sem, reduceCtorEq, Nat.reduceAdd, Nat.reduceMul, Nat.reduceLeDiff, Nat.reduceLT, Int.reduceLE, Int.reduceLT, Int.reduceEq, Nat.reduceBEq, Nat.reduceEqDiff]
    refine ⟨e, mid', B', ?_, u1, u2, u3.cells w0 (by omega), u3.cells w1 (by omega)⟩
    repeat (first | exact leEnv_nil | refine leEnv_any _ ?_ | refine leEnv_same _ ?_ | refine leEnv_norm _ ?_)
  rintro ee env s5 ⟨rfl, e, mid', B', hle, hu, hE5, z0, z1⟩
  show AWp _ _ _ _ _
  refine awp_weaken hle ?_
  clear hle env
  have hrg5 := hE5.rg
  have hbg5 := hrg5.bg
  by_cases he : e = 0
  · subst he
    have k := un_ok hrg.bg hu
    have hx := one_law hrg.bg hbg5 hu
    have zf0 := cells_facts z0
    have zf1 := cells_facts z1
    have hc : ∀ (x y : Ty) (hx : nmB x = true) (hy : nmB y = true) (s : St) (E : ES s (p + 3) mid' B'),
        (∀ (K : SV → St → Prop), K (tySV (pT x y)) s → ACalls Tryd.prog 15 [.sc (.string ⟨#[112]⟩), .slice .full 3 [tySV x, tySV y]] K s) ∧ (∀ (K : SV → St → Prop), K (tySV (ApT 6 B' (pT x y))) s → ACalls Tryd.prog 11 [.ptr (p + 3) 0, tySV (pT x y)] K s) ∧ (∀ (K : SV → St → Prop), K (.sc (.string (showA (ApT 6 B' (pT x y))))) s → ACalls Tryd.prog 10 [tySV (ApT 6 B' (pT x y))] K s) :=
      fun x y hx hy s E => ⟨fun K h => con_c ⟨#[112]⟩ [x, y] .full K s h, fun K h => apE_c E _ K h, fun K h => Show_c _ (shOk_ap hrg5 (nm_p hx hy)) K s h⟩
    obtain ⟨X, hX⟩ : ∃ X, showA (ApT 6 B' (pT a' a')) = X := ⟨_, rfl⟩
    have hY : showA (ApT 6 B' (pT a' b')) = X := by rw [← hx.1]; exact hX
    have hZ : showA (ApT 6 B' (pT b' a')) = X := by rw [← hx.2]; exact hY
    have b0 : ((0 : Int) != 0) = false := rfl
    refine awp_seq (AWp.mono (Q := fun e env s' => e = .normal ∧ LeEnv env [.any, .any, .any, .any, .ptr p 0, .ptr (p + 1) 0, .any, .ptr (p + 3) 0, .any, .any, .any, .any, .any, .any, .any, .any, .any, .any, .any, .any, .any, .any, .any, .any, .any, .any, .any, .any, .any, .any, .any, .any, .any, .any, .any, .any, .any, .any, .any, .any, .any, .any, .any, .any, .any, .any, .any, .any, .any, .any, .any, .any, .any, .any, .any, .any, .any, .any, .any, .any, .any, .any, .any, .any, .any, .any, .any, .any, .any, .any, .any, .any, .any, .any, .any, .any, .any, .any, .any, .any, .any, .any, .any, .any, .any, .any, .any, .any] ∧ s' = s5) ?_ ?_)
    · refine awp_c (M := []) ?_
      simp only [go_sem, reduceCtorEq, Nat.reduceAdd, Nat.reduceMul, Nat.reduceLeDiff, Nat.reduceLT, Int.reduceLE, Int.reduceLT, Int.reduceEq, Nat.reduceBEq, Nat.reduceEqDiff, b0]
      repeat (first | exact leEnv_nil | refine leEnv_any _ ?_ | refine leEnv_same _ ?_ | refine leEnv_norm _ ?_)
    rintro e env s6 ⟨rfl, hle, rfl⟩
    show AWp _ _ _ _ _
    refine awp_weaken hle ?_
    clear hle env
    refine awp_seq (AWp.mono (Q := fun e env s' => e = .normal ∧ LeEnv env [.any, .any, .any, .any, .ptr p 0, .ptr (p + 1) 0, .any, .ptr (p + 3) 0, .any, .any, .any, .sc (.string X), .any, .any, .any, .any, .any, .any, .any, .any, .any, .any, .any, .any, .any, .any, .any, .any, .any, .any, .any, .any, .any, .any, .any, .any, .any, .any, .any, .any, .any, .any, .any, .any, .any, .any, .any, .any, .any, .any, .any, .any, .any, .any, .any, .any, .any, .any, .any, .any, .any, .any, .any, .any, .any, .any, .any, .any, .any, .any, .any, .any, .any, .any, .any, .any, .any, .any, .any, .any, .any, .any, .any, .any, .any, .any, .any, .any] ∧ s' = s6) ?_ ?_)
    · refine awp_c (M := []) ?_
      obtain ⟨i1, i2, i3⟩ := hc a' a' na na s6 hE5
      rw [hX] at i3
      rw [tySV_eq a'] at i1
      simp only [go_sem, reduceCtorEq, Nat.reduceAdd, Nat.reduceMul, Nat.reduceLeDiff, Nat.reduceLT, Int.reduceLE, Int.reduceLT, Int.reduceEq, Nat.reduceBEq, Nat.reduceEqDiff, zf0.1, zf0.2.1, zf0.2.2, zf1.1, zf1.2.1, zf1.2.2]
      refine i1 _ ?_
      simp only [go_sem, reduceCtorEq, Nat.reduceAdd, Nat.reduceMul, Nat.reduceLeDiff, Nat.reduceLT, Int.reduceLE, Int.reduceLT, Int.reduceEq, Nat.reduceBEq, Nat.reduceEqDiff]
      refine i2 _ ?_
      simp only [go_sem, reduceCtorEq, Nat.reduceAdd, Nat.reduceMul, Nat.reduceLeDiff, Nat.reduceLT, Int.reduceLE, Int.reduceLT, Int.reduceEq, Nat.reduceBEq, Nat.reduceEqDiff]
      refine i3 _ ?_
      simp only [go_sem, reduceCtorEq, Nat.reduceAdd, Nat.reduceMul, Nat.reduceLeDiff, Nat.reduceLT, Int.reduceLE, Int.reduceLT, Int.reduceEq, Nat.reduceBEq, Nat.reduceEqDiff]
      repeat (first | exact leEnv_nil | refine leEnv_any _ ?_ | refine leEnv_same _ ?_ | refine leEnv_norm _ ?_)
    rintro e env s7 ⟨rfl, hle, rfl⟩
    show AWp _ _ _ _ _
    refine awp_weaken hle ?_
    clear hle env
    refine awp_seq (AWp.mono (Q := fun e env s' => e = .normal ∧ LeEnv env [.any, .any, .any, .any, .ptr p 0, .ptr (p + 1) 0, .any, .ptr (p + 3) 0, .any, .any, .any, .sc (.string X), .sc (.string X), .any, .any, .any, .any, .any, .any, .any, .any, .any, .any, .any, .any, .any, .any, .any, .any, .any, .any, .any, .any, .any, .any, .any, .any, .any, .any, .any, .any, .any, .any, .any, .any, .any, .any, .any, .any, .any, .any, .any, .any, .any, .any, .any, .any, .any, .any, .any, .any, .any, .any, .any, .any, .any, .any, .any, .any, .any, .any, .any, .any, .any, .any, .any, .any, .any, .any, .any, .any, .any, .any, .any, .any, .any, .any, .any] ∧ s' = s7) ?_ ?_)
    · refine awp_c (M := []) ?_
      obtain ⟨i1, i2, i3⟩ := hc a' b' na nb s7 hE5
      rw [hY] at i3
      rw [tySV_eq a', tySV_eq b'] at i1
      simp only [go_sem, reduceCtorEq, Nat.reduceAdd, Nat.reduceMul, Nat.reduceLeDiff, Nat.reduceLT, Int.reduceLE, Int.reduceLT, Int.reduceEq, Nat.reduceBEq, Nat.reduceEqDiff, zf0.1, zf0.2.1, zf0.2.2, zf1.1, zf1.2.1, zf1.2.2]
      refine i1 _ ?_
      simp only [go_sem, reduceCtorEq, Nat.reduceAdd, Nat.reduceMul, Nat.reduceLeDiff, Nat.reduceLT, Int.reduceLE, Int.reduceLT, Int.reduceEq, Nat.reduceBEq, Nat.reduceEqDiff]
      refine i2 _ ?_
      simp only [go_sem, reduceCtorEq, Nat.reduceAdd, Nat.reduceMul, Nat.reduceLeDiff, Nat.reduceLT, Int.reduceLE, Int.reduceLT, Int.reduceEq, Nat.reduceBEq, Nat.reduceEqDiff]
      refine i3 _ ?_
      simp only [go_sem, reduceCtorEq, Nat.reduceAdd, Nat.reduceMul, Nat.reduceLeDiff, Nat.reduceLT, Int.reduceLE, Int.reduceLT, Int.reduceEq, Nat.reduceBEq, Nat.reduceEqDiff]
      repeat (first | exact leEnv_nil | refine leEnv_any _ ?_ | refine leEnv_same _ ?_ | refine leEnv_norm _ ?_)
    rintro e env s8 ⟨rfl, hle, rfl⟩
    show AWp _ _ _ _ _
    refine awp_weaken hle ?_
    clear hle env
    refine awp_seq (AWp.mono (Q := fun e env s' => e = .normal ∧ LeEnv env [.any, .any, .any, .any, .ptr p 0, .ptr (p + 1) 0, .any, .ptr (p + 3) 0, .any, .any, .any, .sc (.string X), .sc (.string X), .sc (.string X), .any, .any, .any, .any, .any, .any, .any, .any, .any, .any, .any, .any, .any, .any, .any, .any, .any, .any, .any, .any, .any, .any, .any, .any, .any, .any, .any, .any, .any, .any, .any, .any, .any, .any, .any, .any, .any, .any, .any, .any, .any, .any, .any, .any, .any, .any, .any, .any, .any, .any, .any, .any, .any, .any, .any, .any, .any, .any, .any, .any, .any, .any, .any, .any, .any, .any, .any, .any, .any, .any, .any, .any, .any, .any] ∧ s' = s8) ?_ ?_)
    · refine awp_c (M := []) ?_
      obtain ⟨i1, i2, i3⟩ := hc b' a' nb na s8 hE5
      rw [hZ] at i3
      rw [tySV_eq b', tySV_eq a'] at i1
      simp only [go_sem, reduceCtorEq, Nat.reduceAdd, Nat.reduceMul, Nat.reduceLeDiff, Nat.reduceLT, Int.reduceLE, Int.reduceLT, Int.reduceEq, Nat.reduceBEq, Nat.reduceEqDiff, zf0.1, zf0.2.1, zf0.2.2, zf1.1, zf1.2.1, zf1.2.2]
      refine i1 _ ?_
      simp only [go_sem, reduceCtorEq, Nat.reduceAdd, Nat.reduceMul, Nat.reduceLeDiff, Nat.reduceLT, Int.reduceLE, Int.reduceLT, Int.reduceEq, Nat.reduceBEq, Nat.reduceEqDiff]
      refine i2 _ ?_
      simp only [go_sem, reduceCtorEq, Nat.reduceAdd, Nat.reduceMul, Nat.reduceLeDiff, Nat.reduceLT, Int.reduceLE, Int.reduceLT, Int.reduceEq, Nat.reduceBEq, Nat.reduceEqDiff]
      refine i3 _ ?_
      simp only [go_sem, reduceCtorEq, Nat.reduceAdd, Nat.reduceMul, Nat.reduceLeDiff, Nat.reduceLT, Int.reduceLE, Int.reduceLT, Int.reduceEq, Nat.reduceBEq, Nat.reduceEqDiff]
      repeat (first | exact leEnv_nil | refine leEnv_any _ ?_ | refine leEnv_same _ ?_ | refine leEnv_norm _ ?_)
    rintro e env s9 ⟨rfl, hle, rfl⟩
    show AWp _ _ _ _ _
    refine awp_weaken hle ?_
    clear hle env
    refine awp_seq (AWp.mono (Q := fun e env s' => e = .normal ∧ LeEnv env [.any, .any, .any, .any, .ptr p 0, .ptr (p + 1) 0, .any, .ptr (p + 3) 0, .any, .any, .any, .sc (.string X), .sc (.string X), .sc (.string X), .sc (.int .i64 0), .any, .any, .any, .any, .any, .any, .any, .any, .any, .any, .any, .any, .any, .any, .any, .any, .any, .any, .any, .any, .any, .any, .any, .any, .any, .any, .any, .any, .any, .any, .any, .any, .any, .any, .any, .any, .any, .any, .any, .any, .any, .any, .any, .any, .any, .any, .any, .any, .any, .any, .any, .any, .any, .any, .any, .any, .any, .any, .any, .any, .any, .any, .any, .any, .any, .any, .any, .any, .any, .any, .any, .any, .any] ∧ True) ?_ ?_)
    · refine awp_c (M := []) ?_
      have hu2 := fun K h => uniE_c hE5 b' a' nb na K h
      rw [tySV_eq a', tySV_eq b'] at hu2
      simp only [go_sem, reduceCtorEq, Nat.reduceAdd, Nat.reduceMul, Nat.reduceLeDiff, Nat.reduceLT, Int.reduceLE, Int.reduceLT, Int.reduceEq, Nat.reduceBEq, Nat.reduceEqDiff, zf0.1, zf0.2.1, zf0.2.2, zf1.1, zf1.2.1, zf1.2.2]
      refine hu2 _ fun e s10 mid2 B2 u1 u2 u3 u4 => ?_
      have he2 : e = 0 := one_again hrg.bg hbg5 hu u1
      simp only [go_sem, reduceCtorEq, Nat.reduceAdd, Nat.reduceMul, Nat.reduceLeDiff, Nat.reduceLT, Int.reduceLE, Int.reduceLT, Int.reduceEq, Nat.reduceBEq, Nat.reduceEqDiff, he2]
      repeat (first | exact leEnv_nil | refine leEnv_any _ ?_ | refine leEnv_same _ ?_ | refine leEnv_norm _ ?_)
    rintro e env s10 ⟨rfl, hle, _⟩
    show AWp _ _ _ _ _
    refine awp_weaken hle ?_
    clear hle env
    have hq : (X.toList == X.toList) = true := beq_self_eq_true _
    have h00 : ((0 : Int) == 0) = true := rfl
    refine awp_c (M := []) ?_
    simp only [go_sem, reduceCtorEq, Nat.reduceAdd, Nat.reduceMul, Nat.reduceLeDiff, Nat.reduceLT, Int.reduceLE, Int.reduceLT, Int.reduceEq, Nat.reduceBEq, Nat.reduceEqDiff, hq, h00]
    refine lives_c ?_
    simp only [go_sem, reduceCtorEq, Nat.reduceAdd, Nat.reduceMul, Nat.reduceLeDiff, Nat.reduceLT, Int.reduceLE, Int.reduceLT, Int.reduceEq, Nat.reduceBEq, Nat.reduceEqDiff, hq, h00]
    exact h _
  · have c0 : (e != 0) = true := by simp [he]
    obtain rfl : B' = B := un_bad hu he
    have h1 := fun K h => apE_c hE5 sixT K h
    have h2 := fun K h => Show_c (ApT 6 B' sixT) (shOk_ap hrg5 six_nm) K s5 h
    refine awp_c (M := []) ?_
    simp only [go_sem, reduceCtorEq, Nat.reduceAdd, Nat.reduceMul, Nat.reduceLeDiff, Nat.reduceLT, Int.reduceLE, Int.reduceLT, Int.reduceEq, Nat.reduceBEq, Nat.reduceEqDiff, c0]
    refine six_c _ _ ?_
    simp only [go_sem, reduceCtorEq, Nat.reduceAdd, Nat.reduceMul, Nat.reduceLeDiff, Nat.reduceLT, Int.reduceLE, Int.reduceLT, Int.reduceEq, Nat.reduceBEq, Nat.reduceEqDiff]
    refine h1 _ ?_
    simp only [go_sem, reduceCtorEq, Nat.reduceAdd, Nat.reduceMul, Nat.reduceLeDiff, Nat.reduceLT, Int.reduceLE, Int.reduceLT, Int.reduceEq, Nat.reduceBEq, Nat.reduceEqDiff]
    refine h2 _ ?_
    simp only [go_sem, reduceCtorEq, Nat.reduceAdd, Nat.reduceMul, Nat.reduceLeDiff, Nat.reduceLT, Int.reduceLE, Int.reduceLT, Int.reduceEq, Nat.reduceBEq, Nat.reduceEqDiff, sixS, beq_self_eq_true]
    refine lives_c ?_
    simp only [go_sem, reduceCtorEq, Nat.reduceAdd, Nat.reduceMul, Nat.reduceLeDiff, Nat.reduceLT, Int.reduceLE, Int.reduceLT, Int.reduceEq, Nat.reduceBEq, Nat.reduceEqDiff, beq_self_eq_true]
    have hq : ((showA (ApT 6 B' sixT)).toList == (sixS B').toList) = true := by unfold sixS; exact beq_self_eq_true _
    rw [hq]
    exact h _

end Go.Proofs
