/- TypesStill: the walk. -/
import Derived.Test.YteclbnjpijakbaaDoorW36a
set_option linter.unusedSimpArgs false
set_option linter.unusedVariables false
set_option maxRecDepth 8000
namespace Go.Proofs
open Go Go.AL

theorem RS.set {st : St} {rid : Nat} {B : Bd} (h : RS st rid B) {j : Nat} {o : List SV} (hj : st[j]? = some (.cells o) ∨ st.length ≤ j) (hn : j ≠ rid) (x : Ob) : RS (st.set j x) rid B := by
  obtain ⟨ra, rb, va, vb, R, k1, k2, k3, k4⟩ := h.ex
  refine ⟨ra, rb, va, vb, R, RSt.gs ((Gs.refl [j] st).set (.inr (by simp)) x) k1 (by simpa using hn.symm) ?_ ?_, k2, k3, k4⟩
  · simp only [List.mem_singleton]
    rintro rfl
    rcases hj with q | q
    · have := q.symm.trans k1.ha; cases this
    · have := lt_of_get k1.ha; omega
  · simp only [List.mem_singleton]
    rintro rfl
    rcases hj with q | q
    · have := q.symm.trans k1.hb; cases this
    · have := lt_of_get k1.hb; omega

set_option maxHeartbeats 8000000 in
theorem typesStill_c (ps : List (Ty × Ty)) (hps : ps.length ≤ 9223372036854775807) (x : Ty) (K : SV → St → Prop) (st : St) (h : ∀ s, K (.sc (.bool true)) s) :
    ACalls Tryd.prog 6 [.slice .imm 6 (ps.map prT), tySV x] K st := by
  refine acalls_goA Tryd.func6 rfl Tryd.results6 Tryd.ntmps6 ?_
  have hca := cells_ty x
  obtain ⟨s1, hs1⟩ : ∃ s1, st ++ [Ob.cells (tySV x).cells] = s1 := ⟨_, rfl⟩
  obtain ⟨p, hp⟩ : ∃ p, st.length = p := ⟨_, rfl⟩
  have e0 : s1[p]? = some (.cells [.sc (.int .i64 x.v), .sc (.string x.name), .slice .imm 3 (x.args.map tySV)]) := by rw [← hs1, ← hp, ← hca]; simp
  have hl1 : s1.length = p + 1 := by rw [← hs1, ← hp]; simp
  refine awp_seq (AWp.mono (Q := fun e env s' => e = .normal ∧ LeEnv env [.slice .imm 6 (ps.map prT), .any, .any, .ptr p 0, .any, .any, .any, .any, .any, .any, .any, .any, .any, .any, .any, .any, .any, .any, .any, .any, .any, .any, .any, .any, .any, .any, .any, .any, .any, .any, .any, .any, .any, .any, .any, .any, .any, .any, .any, .any, .any, .any, .any, .any, .any, .any, .any, .any, .any, .any, .any, .any, .any, .any, .any, .any, .any, .any, .any, .any, .any, .any, .any, .any, .any, .any, .any, .any, .any, .any, .any, .any, .any, .any, .any, .any, .any, .any, .any, .any, .any, .any] ∧ s' = s1) ?_ ?_)
  · refine awp_c (M := [3]) ?_
    simp only [go_sem, reduceCtorEq, Nat.reduceAdd, Nat.reduceMul, Nat.reduceLeDiff, Nat.reduceLT, Int.reduceLE, Int.reduceLT, Int.reduceEq, Nat.reduceBEq, Nat.reduceEqDiff, hs1, hp]
    repeat (first | exact leEnv_nil | refine leEnv_any _ ?_ | refine leEnv_same _ ?_ | refine leEnv_norm _ ?_)
  rintro e env s ⟨rfl, hle, rfl⟩
  show AWp _ _ _ _ _
  refine awp_weaken hle ?_
  clear hle env
  refine awp_seq (AWp.mono (Q := fun e env s' => e = .normal ∧ LeEnv env [.slice .imm 6 (ps.map prT), .any, .any, .ptr p 0, .any, .ptr (p + 2) 0, .ptr (p + 3) 0, .any, .any, .any, .any, .any, .any, .any, .any, .any, .any, .any, .any, .any, .any, .any, .any, .any, .any, .any, .any, .any, .any, .any, .any, .any, .any, .any, .any, .any, .any, .any, .any, .any, .any, .any, .any, .any, .any, .any, .any, .any, .any, .any, .any, .any, .any, .any, .any, .any, .any, .any, .any, .any, .any, .any, .any, .any, .any, .any, .any, .any, .any, .any, .any, .any, .any, .any, .any, .any, .any, .any, .any, .any, .any, .any] ∧ Begun s s' 6) ?_ ?_)
  · refine awp_c (M := []) ?_
    simp only [go_sem, reduceCtorEq, Nat.reduceAdd, Nat.reduceMul, Nat.reduceLeDiff, Nat.reduceLT, Int.reduceLE, Int.reduceLT, Int.reduceEq, Nat.reduceBEq, Nat.reduceEqDiff]
    refine begin_c _ _ fun s' hB => ?_
    simp only [go_sem, reduceCtorEq, Nat.reduceAdd, Nat.reduceMul, Nat.reduceLeDiff, Nat.reduceLT, Int.reduceLE, Int.reduceLT, Int.reduceEq, Nat.reduceBEq, Nat.reduceEqDiff, hl1]
    refine ⟨?_, hB⟩
    repeat (first | exact leEnv_nil | refine leEnv_any _ ?_ | refine leEnv_same _ ?_ | refine leEnv_norm _ ?_)
  rintro e env s' ⟨rfl, hle, hB⟩
  show AWp _ _ _ _ _
  refine awp_weaken hle ?_
  clear hle env
  obtain ⟨hE, hR⟩ := begun_ps hB
  rw [hl1] at hE hR
  have f0 := (hB.old p (by omega)).trans e0
  clear hB e0 hs1 hl1
  refine awp_seq (AWp.mono (Q := fun e env s'_ => e = .normal ∧ LeEnv env [.slice .imm 6 (ps.map prT), .any, .any, .ptr p 0, .any, .ptr (p + 2) 0, .ptr (p + 3) 0, .any, .any, .any, .any, .any, .any, .any, .any, .any, .any, .any, .any, .any, .any, .any, .any, .any, .any, .any, .any, .any, .any, .any, .any, .any, .any, .any, .any, .any, .any, .any, .any, .any, .any, .any, .any, .any, .any, .any, .any, .any, .any, .any, .any, .any, .any, .any, .any, .any, .any, .any, .any, .any, .any, .any, .any, .any, .any, .any, .any, .any, .any, .any, .any, .any, .any, .any, .any, .any, .any, .any, .any, .any, .any, .any] ∧ s'_ = s') ?_ ?_)
  · refine awp_c (M := []) ?_
    simp only [go_sem, reduceCtorEq, Nat.reduceAdd, Nat.reduceMul, Nat.reduceLeDiff, Nat.reduceLT, Int.reduceLE, Int.reduceLT, Int.reduceEq, Nat.reduceBEq, Nat.reduceEqDiff]
    repeat (first | exact leEnv_nil | refine leEnv_any _ ?_ | refine leEnv_same _ ?_ | refine leEnv_norm _ ?_)
  rintro e env s ⟨rfl, hle, rfl⟩
  show AWp _ _ _ _ _
  refine awp_weaken hle ?_
  clear hle env
  refine awp_seq (AWp.mono (Q := fun e env s' => e = .normal ∧ LeEnv env [.any, .any, .any, .ptr p 0, .any, .ptr (p + 2) 0, .ptr (p + 3) 0, .sc (.bool true), .any, .any, .any, .any, .any, .any, .any, .any, .any, .any, .any, .any, .any, .any, .any, .any, .any, .any, .any, .any, .any, .any, .any, .any, .any, .any, .any, .any, .any, .any, .any, .any, .any, .any, .any, .any, .any, .any, .any, .any, .any, .any, .any, .any, .any, .any, .any, .any, .any, .any, .any, .any, .any, .any, .any, .any, .any, .any, .any, .any, .any, .any, .any, .any, .any, .any, .any, .any, .any, .any, .any, .any, .any, .any] ∧ ∃ mid B, ES s' (p + 2) mid B ∧ RS s' (p + 3) B ∧ s'[p]? = some (.cells [.sc (.int .i64 x.v), .sc (.string x.name), .slice .imm 3 (x.args.map tySV)])) ?_ ?_)
  · refine awp_c (M := []) ?_
    simp only [go_sem, reduceCtorEq, Nat.reduceAdd, Nat.reduceMul, Nat.reduceLeDiff, Nat.reduceLT, Int.reduceLE, Int.reduceLT, Int.reduceEq, Nat.reduceBEq, Nat.reduceEqDiff]
    refine plays_c (by omega) ps hps s hE hR _ fun s' mid B k1 k2 k3 k4 => ?_
    simp only [go_sem, reduceCtorEq, Nat.reduceAdd, Nat.reduceMul, Nat.reduceLeDiff, Nat.reduceLT, Int.reduceLE, Int.reduceLT, Int.reduceEq, Nat.reduceBEq, Nat.reduceEqDiff]
    refine ⟨?_, mid, B, k1, k2, k4 _ _ f0 (by omega) (by omega)⟩
    repeat (first | exact leEnv_nil | refine leEnv_any _ ?_ | refine leEnv_same _ ?_ | refine leEnv_norm _ ?_)
  rintro e env s0 ⟨rfl, hle, mid, B, hE0, hR0, g0⟩
  show AWp _ _ _ _ _
  refine awp_weaken hle ?_
  clear hle env
  clear hE hR f0
  obtain ⟨y, hy⟩ : ∃ y, cutT 6 x = y := ⟨_, rfl⟩
  have ny : nmB y = true := by rw [← hy]; exact cut_nm _ _
  have hdl : ∀ a b c : SV, List.drop 3 [a, b, c] = [] := fun _ _ _ => rfl
  have hcy := cells_ty y
  refine awp_seq (AWp.mono (Q := fun e env s' => e = .normal ∧ LeEnv env [.any, .any, .any, .ptr p 0, .any, .ptr (p + 2) 0, .ptr (p + 3) 0, .any, .any, .any, .any, .any, .any, .any, .any, .any, .any, .any, .any, .any, .any, .any, .any, .any, .any, .any, .any, .any, .any, .any, .any, .any, .any, .any, .any, .any, .any, .any, .any, .any, .any, .any, .any, .any, .any, .any, .any, .any, .any, .any, .any, .any, .any, .any, .any, .any, .any, .any, .any, .any, .any, .any, .any, .any, .any, .any, .any, .any, .any, .any, .any, .any, .any, .any, .any, .any, .any, .any, .any, .any, .any, .any] ∧ s' = s0) ?_ ?_)
  · refine awp_c (M := []) ?_
    simp only [go_sem, reduceCtorEq, Nat.reduceAdd, Nat.reduceMul, Nat.reduceLeDiff, Nat.reduceLT, Int.reduceLE, Int.reduceLT, Int.reduceEq, Nat.reduceBEq, Nat.reduceEqDiff]
    repeat (first | exact leEnv_nil | refine leEnv_any _ ?_ | refine leEnv_same _ ?_ | refine leEnv_norm _ ?_)
  rintro e env s2 ⟨rfl, hle, rfl⟩
  show AWp _ _ _ _ _
  refine awp_weaken hle ?_
  clear hle env
  refine awp_seq (AWp.mono (Q := fun e env s' => e = .normal ∧ LeEnv env [.any, .any, .any, .ptr p 0, .any, .ptr (p + 2) 0, .ptr (p + 3) 0, .any, .any, .any, .any, .any, .any, .any, .any, .any, .any, .any, .any, .any, .any, .any, .any, .any, .any, .any, .any, .any, .any, .any, .any, .any, .any, .any, .any, .any, .any, .any, .any, .any, .any, .any, .any, .any, .any, .any, .any, .any, .any, .any, .any, .any, .any, .any, .any, .any, .any, .any, .any, .any, .any, .any, .any, .any, .any, .any, .any, .any, .any, .any, .any, .any, .any, .any, .any, .any, .any, .any, .any, .any, .any, .any] ∧ ES s' (p + 2) mid B ∧ RS s' (p + 3) B ∧ s'[p]? = some (.cells [.sc (.int .i64 y.v), .sc (.string y.name), .slice .imm 3 (y.args.map tySV)])) ?_ ?_)
  · refine awp_c (M := []) ?_
    have f := cells_facts g0
    have hc := fun K h => cut_c 6 (by omega) x K s2 h
    rw [hy, tySV_eq x] at hc
    simp only [go_sem, reduceCtorEq, Nat.reduceAdd, Nat.reduceMul, Nat.reduceLeDiff, Nat.reduceLT, Int.reduceLE, Int.reduceLT, Int.reduceEq, Nat.reduceBEq, Nat.reduceEqDiff, f.1, f.2.1, f.2.2]
    refine hc _ ?_
    simp only [go_sem, reduceCtorEq, Nat.reduceAdd, Nat.reduceMul, Nat.reduceLeDiff, Nat.reduceLT, Int.reduceLE, Int.reduceLT, Int.reduceEq, Nat.reduceBEq, Nat.reduceEqDiff, f.1, f.2.1, f.2.2, hcy, hdl, List.length_cons, List.length_nil]
    refine ⟨?_, hE0.set (.inl g0) (by omega) _, hR0.set (.inl g0) (by omega) _, List.getElem?_set_self (lt_of_get g0)⟩
    repeat (first | exact leEnv_nil | refine leEnv_any _ ?_ | refine leEnv_same _ ?_ | refine leEnv_norm _ ?_)
  rintro e env s3 ⟨rfl, hle, hE3, hR3, w0⟩
  show AWp _ _ _ _ _
  refine awp_weaken hle ?_
  clear hle env
  clear hE0 hR0 g0
  have hrg := hE3.rg
  have f0 := cells_facts w0
  have hPS := PS.mk2 hE3 hR3
  refine awp_seq (AWp.mono (Q := fun e env s' => e = .normal ∧ LeEnv env [.any, .any, .any, .ptr p 0, .any, .ptr (p + 2) 0, .ptr (p + 3) 0, .any, .sc (.bool (okT 6 B y)), .any, .any, .any, .any, .any, .any, .any, .any, .any, .any, .any, .any, .any, .any, .any, .any, .any, .any, .any, .any, .any, .any, .any, .any, .any, .any, .any, .any, .any, .any, .any, .any, .any, .any, .any, .any, .any, .any, .any, .any, .any, .any, .any, .any, .any, .any, .any, .any, .any, .any, .any, .any, .any, .any, .any, .any, .any, .any, .any, .any, .any, .any, .any, .any, .any, .any, .any, .any, .any, .any, .any, .any, .any] ∧ s' = s3) ?_ ?_)
  · refine awp_c (M := []) ?_
    have hm := fun K h => rmay_c hPS y K h
    rw [tySV_eq y] at hm
    obtain ⟨u, hu⟩ : ∃ u, okT 6 B y = u := ⟨_, rfl⟩
    rw [hu] at hm ⊢
    simp only [go_sem, reduceCtorEq, Nat.reduceAdd, Nat.reduceMul, Nat.reduceLeDiff, Nat.reduceLT, Int.reduceLE, Int.reduceLT, Int.reduceEq, Nat.reduceBEq, Nat.reduceEqDiff, f0.1, f0.2.1, f0.2.2]
    refine hm _ ?_
    simp only [go_sem, reduceCtorEq, Nat.reduceAdd, Nat.reduceMul, Nat.reduceLeDiff, Nat.reduceLT, Int.reduceLE, Int.reduceLT, Int.reduceEq, Nat.reduceBEq, Nat.reduceEqDiff]
    repeat (first | exact leEnv_nil | refine leEnv_any _ ?_ | refine leEnv_same _ ?_ | refine leEnv_norm _ ?_)
  rintro e env s4 ⟨rfl, hle, rfl⟩
  show AWp _ _ _ _ _
  refine awp_weaken hle ?_
  clear hle env
  obtain ⟨A, hA⟩ : ∃ A, ApT 6 B y = A := ⟨_, rfl⟩
  have hcA := cells_ty A
  obtain ⟨n, hn⟩ : ∃ n, s4.length = n := ⟨_, rfl⟩
  have hln := hE3.lt
  have hlp := lt_of_get w0
  refine awp_seq (AWp.mono (Q := fun e env s' => e = .normal ∧ LeEnv env [.any, .any, .any, .ptr p 0, .any, .ptr (p + 2) 0, .ptr (p + 3) 0, .any, .sc (.bool (okT 6 B y)), .ptr n 0, .any, .any, .any, .any, .any, .any, .any, .any, .any, .any, .any, .any, .any, .any, .any, .any, .any, .any, .any, .any, .any, .any, .any, .any, .any, .any, .any, .any, .any, .any, .any, .any, .any, .any, .any, .any, .any, .any, .any, .any, .any, .any, .any, .any, .any, .any, .any, .any, .any, .any, .any, .any, .any, .any, .any, .any, .any, .any, .any, .any, .any, .any, .any, .any, .any, .any, .any, .any, .any, .any, .any, .any] ∧ ES s' (p + 2) mid B ∧ s'[p]? = some (.cells [.sc (.int .i64 y.v), .sc (.string y.name), .slice .imm 3 (y.args.map tySV)]) ∧ s'[n]? = some (.cells [.sc (.int .i64 A.v), .sc (.string A.name), .slice .imm 3 (A.args.map tySV)])) ?_ ?_)
  · refine awp_c (M := []) ?_
    have hm := fun K h => apE_c hE3 y K h
    rw [hA, tySV_eq y] at hm
    simp only [go_sem, reduceCtorEq, Nat.reduceAdd, Nat.reduceMul, Nat.reduceLeDiff, Nat.reduceLT, Int.reduceLE, Int.reduceLT, Int.reduceEq, Nat.reduceBEq, Nat.reduceEqDiff, f0.1, f0.2.1, f0.2.2]
    refine hm _ ?_
    simp only [go_sem, reduceCtorEq, Nat.reduceAdd, Nat.reduceMul, Nat.reduceLeDiff, Nat.reduceLT, Int.reduceLE, Int.reduceLT, Int.reduceEq, Nat.reduceBEq, Nat.reduceEqDiff, hcA, hn]
    refine ⟨?_, hE3.app _, (List.getElem?_append_left hlp).trans w0, by rw [← hn]; simp⟩
    repeat (first | exact leEnv_nil | refine leEnv_any _ ?_ | refine leEnv_same _ ?_ | refine leEnv_norm _ ?_)
  rintro e env s5 ⟨rfl, hle, hE5, z0, z1⟩
  show AWp _ _ _ _ _
  refine awp_weaken hle ?_
  clear hle env
  have zf0 := cells_facts z0
  have zf1 := cells_facts z1
  have hrg5 := hE5.rg
  cases hok : okT 6 B y with
  | false =>
    have hAd : A = default := by rw [← hA]; exact ap_no hok
    have hAc : [SV.sc (.int .i64 A.v), .sc (.string A.name), .slice .imm 3 (A.args.map tySV)] = [.sc (.int .i64 0), .sc (.string ⟨#[]⟩), .slice .imm 3 []] := by rw [hAd]; rfl
    rw [hAc] at zf1
    have hu := fun K h => uniE_c hE5 y y ny ny K h
    rw [tySV_eq y] at hu
    have h11 : ((1 : Int) == 1) = true := rfl
    have h00 : ((0 : Int) == 0) = true := rfl
    have hee : ((⟨#[]⟩ : ByteArray).toList == (⟨#[]⟩ : ByteArray).toList) = true := beq_self_eq_true _
    refine awp_c (M := []) ?_
    simp only [go_sem, reduceCtorEq, Nat.reduceAdd, Nat.reduceMul, Nat.reduceLeDiff, Nat.reduceLT, Int.reduceLE, Int.reduceLT, Int.reduceEq, Nat.reduceBEq, Nat.reduceEqDiff, zf0.1, zf0.2.1, zf0.2.2, zf1.1, zf1.2.1, zf1.2.2, h00, hee]
    refine hu _ fun e s6 mid' B' u1 u2 u3 u4 => ?_
    have he : e = 1 := (still_no hok u1).1
    simp only [go_sem, reduceCtorEq, Nat.reduceAdd, Nat.reduceMul, Nat.reduceLeDiff, Nat.reduceLT, Int.reduceLE, Int.reduceLT, Int.reduceEq, Nat.reduceBEq, Nat.reduceEqDiff, he, h11, zf1.1, zf1.2.1, zf1.2.2, h00, hee]
    refine lives_c ?_
    simp only [go_sem, reduceCtorEq, Nat.reduceAdd, Nat.reduceMul, Nat.reduceLeDiff, Nat.reduceLT, Int.reduceLE, Int.reduceLT, Int.reduceEq, Nat.reduceBEq, Nat.reduceEqDiff, he, h11, zf1.1, zf1.2.1, zf1.2.2, h00, hee]
    exact h _
  | true =>
    have hAe : A = AP B y := by rw [← hA]; exact (still_ap hrg5.bg hok).1
    have hAA : ApT 6 B A = A := by rw [hAe]; exact (still_ap hrg5.bg hok).2
    have nA : nmB A = true := by rw [hAe]; exact AP_nm hrg5.bg.ends hrg5.bg.gp.gb hrg5.nm (good_gd (ok_good hok).1) ny
    have hShA : ShOk A := by rw [← hA]; exact shOk_ap hrg5 ny
    refine awp_seq (AWp.mono (Q := fun e env s' => e = .normal ∧ LeEnv env [.any, .any, .any, .ptr p 0, .any, .ptr (p + 2) 0, .ptr (p + 3) 0, .any, .any, .ptr n 0, .any, .any, .any, .any, .any, .any, .any, .any, .any, .any, .any, .any, .any, .any, .any, .any, .any, .any, .any, .any, .any, .any, .any, .any, .any, .any, .any, .any, .any, .any, .any, .any, .any, .any, .any, .any, .any, .any, .any, .any, .any, .any, .any, .any, .any, .any, .any, .any, .any, .any, .any, .any, .any, .any, .any, .any, .any, .any, .any, .any, .any, .any, .any, .any, .any, .any, .any, .any, .any, .any, .any, .any] ∧ s' = s5) ?_ ?_)
    · refine awp_c (M := []) ?_
      simp only [go_sem, reduceCtorEq, Nat.reduceAdd, Nat.reduceMul, Nat.reduceLeDiff, Nat.reduceLT, Int.reduceLE, Int.reduceLT, Int.reduceEq, Nat.reduceBEq, Nat.reduceEqDiff]
      repeat (first | exact leEnv_nil | refine leEnv_any _ ?_ | refine leEnv_same _ ?_ | refine leEnv_norm _ ?_)
    rintro e env s6 ⟨rfl, hle, rfl⟩
    show AWp _ _ _ _ _
    refine awp_weaken hle ?_
    clear hle env
    refine awp_seq (AWp.mono (Q := fun e env s' => e = .normal ∧ LeEnv env [.any, .any, .any, .ptr p 0, .any, .ptr (p + 2) 0, .ptr (p + 3) 0, .any, .any, .ptr n 0, .sc (.string (sixS B)), .any, .any, .any, .any, .any, .any, .any, .any, .any, .any, .any, .any, .any, .any, .any, .any, .any, .any, .any, .any, .any, .any, .any, .any, .any, .any, .any, .any, .any, .any, .any, .any, .any, .any, .any, .any, .any, .any, .any, .any, .any, .any, .any, .any, .any, .any, .any, .any, .any, .any, .any, .any, .any, .any, .any, .any, .any, .any, .any, .any, .any, .any, .any, .any, .any, .any, .any, .any, .any, .any, .any] ∧ s' = s6) ?_ ?_)
    · refine awp_c (M := []) ?_
      have h1 := fun K h => apE_c hE5 sixT K h
      have h2 := fun K h => Show_c (ApT 6 B sixT) (shOk_ap hrg5 six_nm) K s6 h
      simp only [go_sem, reduceCtorEq, Nat.reduceAdd, Nat.reduceMul, Nat.reduceLeDiff, Nat.reduceLT, Int.reduceLE, Int.reduceLT, Int.reduceEq, Nat.reduceBEq, Nat.reduceEqDiff]
      refine six_c _ _ ?_
      simp only [go_sem, reduceCtorEq, Nat.reduceAdd, Nat.reduceMul, Nat.reduceLeDiff, Nat.reduceLT, Int.reduceLE, Int.reduceLT, Int.reduceEq, Nat.reduceBEq, Nat.reduceEqDiff]
      refine h1 _ ?_
      simp only [go_sem, reduceCtorEq, Nat.reduceAdd, Nat.reduceMul, Nat.reduceLeDiff, Nat.reduceLT, Int.reduceLE, Int.reduceLT, Int.reduceEq, Nat.reduceBEq, Nat.reduceEqDiff]
      refine h2 _ ?_
      simp only [go_sem, reduceCtorEq, Nat.reduceAdd, Nat.reduceMul, Nat.reduceLeDiff, Nat.reduceLT, Int.reduceLE, Int.reduceLT, Int.reduceEq, Nat.reduceBEq, Nat.reduceEqDiff]
      unfold sixS
      repeat (first | exact leEnv_nil | refine leEnv_any _ ?_ | refine leEnv_same _ ?_ | refine leEnv_norm _ ?_)
    rintro e env s7 ⟨rfl, hle, rfl⟩
    show AWp _ _ _ _ _
    refine awp_weaken hle ?_
    clear hle env
    refine awp_seq (AWp.mono (Q := fun e env s' => e = .normal ∧ LeEnv env [.any, .any, .any, .any, .any, .ptr (p + 2) 0, .any, .any, .any, .ptr n 0, .sc (.string (sixS B)), .sc (.int .i64 0), .any, .any, .any, .any, .any, .any, .any, .any, .any, .any, .any, .any, .any, .any, .any, .any, .any, .any, .any, .any, .any, .any, .any, .any, .any, .any, .any, .any, .any, .any, .any, .any, .any, .any, .any, .any, .any, .any, .any, .any, .any, .any, .any, .any, .any, .any, .any, .any, .any, .any, .any, .any, .any, .any, .any, .any, .any, .any, .any, .any, .any, .any, .any, .any, .any, .any, .any, .any, .any, .any] ∧ ∃ mid', ES s' (p + 2) mid' B ∧ s'[n]? = some (.cells [.sc (.int .i64 A.v), .sc (.string A.name), .slice .imm 3 (A.args.map tySV)])) ?_ ?_)
    · refine awp_c (M := []) ?_
      have hu := fun K h => uniE_c hE5 y A ny nA K h
      rw [tySV_eq y, tySV_eq A] at hu
      simp only [go_sem, reduceCtorEq, Nat.reduceAdd, Nat.reduceMul, Nat.reduceLeDiff, Nat.reduceLT, Int.reduceLE, Int.reduceLT, Int.reduceEq, Nat.reduceBEq, Nat.reduceEqDiff, zf0.1, zf0.2.1, zf0.2.2, zf1.1, zf1.2.1, zf1.2.2]
      refine hu _ fun e s8 mid' B' u1 u2 u3 u4 => ?_
      have hst := still_law hrg5.bg hok (by rw [← hAe]; exact u1)
      simp only [go_sem, reduceCtorEq, Nat.reduceAdd, Nat.reduceMul, Nat.reduceLeDiff, Nat.reduceLT, Int.reduceLE, Int.reduceLT, Int.reduceEq, Nat.reduceBEq, Nat.reduceEqDiff, hst.1]
      refine ⟨?_, mid', by rw [← hst.2]; exact u2, u3.cells z1 (by omega)⟩
      repeat (first | exact leEnv_nil | refine leEnv_any _ ?_ | refine leEnv_same _ ?_ | refine leEnv_norm _ ?_)
    rintro e env s8 ⟨rfl, hle, mid', hE8, v1⟩
    show AWp _ _ _ _ _
    refine awp_weaken hle ?_
    clear hle env
    have vf := cells_facts v1
    have i1 := fun K h => apE_c hE8 A K h
    have i2 := fun K h => Show_c A hShA K s8 h
    have i3 := fun K h => apE_c hE8 sixT K h
    have i4 := fun K h => Show_c (ApT 6 B sixT) (shOk_ap hrg5 six_nm) K s8 h
    rw [hAA, tySV_eq A] at i1
    rw [tySV_eq A] at i2
    have hss : showA (ApT 6 B sixT) = sixS B := rfl
    rw [hss] at i4
    have hq1 : ((showA A).toList == (showA A).toList) = true := beq_self_eq_true _
    have hq2 : ((sixS B).toList == (sixS B).toList) = true := beq_self_eq_true _
    have h00 : ((0 : Int) == 0) = true := rfl
    refine awp_c (M := []) ?_
    simp only [go_sem, reduceCtorEq, Nat.reduceAdd, Nat.reduceMul, Nat.reduceLeDiff, Nat.reduceLT, Int.reduceLE, Int.reduceLT, Int.reduceEq, Nat.reduceBEq, Nat.reduceEqDiff]
    refine awp_draw [] Tryd.mixed rfl ?_
    simp only [go_sem, reduceCtorEq, Nat.reduceAdd, Nat.reduceMul, Nat.reduceLeDiff, Nat.reduceLT, Int.reduceLE, Int.reduceLT, Int.reduceEq, Nat.reduceBEq, Nat.reduceEqDiff, vf.1, vf.2.1, vf.2.2]
    refine ⟨.agg [.sc (.int .i64 A.v), .sc (.string A.name), .slice .imm 3 (A.args.map tySV)], ?_, ?_⟩
    · simp only [go_sem, reduceCtorEq, Nat.reduceAdd, Nat.reduceMul, Nat.reduceLeDiff, Nat.reduceLT, Int.reduceLE, Int.reduceLT, Int.reduceEq, Nat.reduceBEq, Nat.reduceEqDiff]
      exact i1 _ ⟨⟨[], by simp⟩, by rw [← tySV_eq]; exact ids_ty _ _, .inl rfl⟩
    simp only [go_sem, reduceCtorEq, Nat.reduceAdd, Nat.reduceMul, Nat.reduceLeDiff, Nat.reduceLT, Int.reduceLE, Int.reduceLT, Int.reduceEq, Nat.reduceBEq, Nat.reduceEqDiff, vf.1, vf.2.1, vf.2.2]
    refine ⟨.sc (.string (showA A)), ?_, ?_⟩
    · simp only [go_sem, reduceCtorEq, Nat.reduceAdd, Nat.reduceMul, Nat.reduceLeDiff, Nat.reduceLT, Int.reduceLE, Int.reduceLT, Int.reduceEq, Nat.reduceBEq, Nat.reduceEqDiff]
      exact i2 _ ⟨⟨[], by simp⟩, .sc _, .inl rfl⟩
    simp only [go_sem, reduceCtorEq, Nat.reduceAdd, Nat.reduceMul, Nat.reduceLeDiff, Nat.reduceLT, Int.reduceLE, Int.reduceLT, Int.reduceEq, Nat.reduceBEq, Nat.reduceEqDiff, vf.1, vf.2.1, vf.2.2]
    refine ⟨.sc (.string (showA A)), ?_, ?_⟩
    · simp only [go_sem, reduceCtorEq, Nat.reduceAdd, Nat.reduceMul, Nat.reduceLeDiff, Nat.reduceLT, Int.reduceLE, Int.reduceLT, Int.reduceEq, Nat.reduceBEq, Nat.reduceEqDiff]
      exact i2 _ ⟨⟨[], by simp⟩, .sc _, .inl rfl⟩
    simp only [go_sem, reduceCtorEq, Nat.reduceAdd, Nat.reduceMul, Nat.reduceLeDiff, Nat.reduceLT, Int.reduceLE, Int.reduceLT, Int.reduceEq, Nat.reduceBEq, Nat.reduceEqDiff, hq1, h00]
    refine ⟨?_, tySV sixT, fun _ => ?_, ?_⟩
    · simp only [go_sem, reduceCtorEq, Nat.reduceAdd, Nat.reduceMul, Nat.reduceLeDiff, Nat.reduceLT, Int.reduceLE, Int.reduceLT, Int.reduceEq, Nat.reduceBEq, Nat.reduceEqDiff]
    · simp only [go_sem, reduceCtorEq, Nat.reduceAdd, Nat.reduceMul, Nat.reduceLeDiff, Nat.reduceLT, Int.reduceLE, Int.reduceLT, Int.reduceEq, Nat.reduceBEq, Nat.reduceEqDiff]
      exact six_c _ _ ⟨⟨[], by simp⟩, ids_ty _ _, .inl rfl⟩
    simp only [go_sem, reduceCtorEq, Nat.reduceAdd, Nat.reduceMul, Nat.reduceLeDiff, Nat.reduceLT, Int.reduceLE, Int.reduceLT, Int.reduceEq, Nat.reduceBEq, Nat.reduceEqDiff, hq1, h00]
    refine ⟨?_, tySV (ApT 6 B sixT), fun _ => ?_, ?_⟩
    · simp only [go_sem, reduceCtorEq, Nat.reduceAdd, Nat.reduceMul, Nat.reduceLeDiff, Nat.reduceLT, Int.reduceLE, Int.reduceLT, Int.reduceEq, Nat.reduceBEq, Nat.reduceEqDiff]
    · simp only [go_sem, reduceCtorEq, Nat.reduceAdd, Nat.reduceMul, Nat.reduceLeDiff, Nat.reduceLT, Int.reduceLE, Int.reduceLT, Int.reduceEq, Nat.reduceBEq, Nat.reduceEqDiff]
      exact i3 _ ⟨⟨[], by simp⟩, ids_ty _ _, .inl rfl⟩
    simp only [go_sem, reduceCtorEq, Nat.reduceAdd, Nat.reduceMul, Nat.reduceLeDiff, Nat.reduceLT, Int.reduceLE, Int.reduceLT, Int.reduceEq, Nat.reduceBEq, Nat.reduceEqDiff, hq1, h00]
    refine ⟨?_, .sc (.string (sixS B)), fun _ => ?_, ?_⟩
    · simp only [go_sem, reduceCtorEq, Nat.reduceAdd, Nat.reduceMul, Nat.reduceLeDiff, Nat.reduceLT, Int.reduceLE, Int.reduceLT, Int.reduceEq, Nat.reduceBEq, Nat.reduceEqDiff]
    · simp only [go_sem, reduceCtorEq, Nat.reduceAdd, Nat.reduceMul, Nat.reduceLeDiff, Nat.reduceLT, Int.reduceLE, Int.reduceLT, Int.reduceEq, Nat.reduceBEq, Nat.reduceEqDiff]
      exact i4 _ ⟨⟨[], by simp⟩, .sc _, .inl rfl⟩
    simp only [go_sem, reduceCtorEq, Nat.reduceAdd, Nat.reduceMul, Nat.reduceLeDiff, Nat.reduceLT, Int.reduceLE, Int.reduceLT, Int.reduceEq, Nat.reduceBEq, Nat.reduceEqDiff, hq1, hq2, h00]
    refine ⟨?_, .sc (.bool true), fun _ => ?_, ?_⟩
    · simp only [go_sem, reduceCtorEq, Nat.reduceAdd, Nat.reduceMul, Nat.reduceLeDiff, Nat.reduceLT, Int.reduceLE, Int.reduceLT, Int.reduceEq, Nat.reduceBEq, Nat.reduceEqDiff]
    · simp only [go_sem, reduceCtorEq, Nat.reduceAdd, Nat.reduceMul, Nat.reduceLeDiff, Nat.reduceLT, Int.reduceLE, Int.reduceLT, Int.reduceEq, Nat.reduceBEq, Nat.reduceEqDiff]
      exact lives_c ⟨⟨[], by simp⟩, .sc _, .inl rfl⟩
    simp only [go_sem, reduceCtorEq, Nat.reduceAdd, Nat.reduceMul, Nat.reduceLeDiff, Nat.reduceLT, Int.reduceLE, Int.reduceLT, Int.reduceEq, Nat.reduceBEq, Nat.reduceEqDiff, hq1, hq2, h00]
    exact h _

end Go.Proofs
