/- The engine: unify. -/
import Derived.Test.YteclbnjpijakbaaDoorM5
set_option linter.unusedSimpArgs false
set_option linter.unusedVariables false
set_option maxRecDepth 8000
namespace Go.Proofs
open Go Go.AL

/-- The heads' boxes before the heads are looked at. -/
structure MemoR (st : St) (p id mid oid : Nat) (vs : Int) (M : List (Int × Ty)) (Q : List (Int × Int)) (a b : Ty) (s : St) (Q0 : List (Int × Int)) : Prop where
  nm : ¬ memo (hasQ Q) a b
  add : hasQ Q0 = addP (hasQ Q) a b
  c4 : s[p]? = some (.cells [.sc (.int .i64 a.v), .sc (.string a.name), .slice .imm 3 (a.args.map tySV)])
  c5 : s[p + 1]? = some (.cells [.sc (.int .i64 b.v), .sc (.string b.name), .slice .imm 3 (b.args.map tySV)])
  one : s[oid]? = some (.map (qEs Q0 1))
  g2 : G2 mid oid st s
  tst : TSt s id mid vs M
  rg : ∀ k ∈ Q0, Rg k

set_option maxHeartbeats 4000000 in
theorem memo_c {id mid oid : Nat} {vs : Int} (hvs : 0 ≤ vs ∧ vs ≤ 1000) (hi1 : oid ≠ id) (hi2 : oid ≠ mid) {a b : Ty} {M : List (Int × Ty)} {Q : List (Int × Int)} {s1 : St} {p : Nat} (hp : id < p ∧ mid < p ∧ oid < p) (ha : goodB (ownP vs) a = true) (hb : goodB (ownP vs) b = true)
    (hUG : UG vs M Q) (e0 : s1[p]? = some (.cells [.sc (.int .i64 a.v), .sc (.string a.name), .slice .imm 3 (a.args.map tySV)])) (e1 : s1[p + 1]? = some (.cells [.sc (.int .i64 b.v), .sc (.string b.name), .slice .imm 3 (b.args.map tySV)]))
    (hT1 : TSt s1 id mid vs M) (eO : s1[oid]? = some (.map (qEs Q 1))) (Z : Exit → List SV → St → Prop)
    (h1 : memo (hasQ Q) a b → ∀ env s, env.getD 6 .any = .sc (.int .i64 0) → G2 mid oid s1 s → TSt s id mid vs M → s[oid]? = some (.map (qEs Q 1)) → Z .ret env s)
    (h2 : ∀ env s Q0, LeEnv env (frU (.ref [.ptr id 0, .mp oid]) p) → MemoR s1 p id mid oid vs M Q a b s Q0 → Z .normal env s) :
    AWp Tryd.prog memoU Z ([.any, .any, .any, .ref [.ptr id 0, .mp oid], .ptr p 0, .ptr (p + 1) 0, .sc (.int .i64 0), .any, .any, .any, .any, .any, .any, .any, .any, .any, .any, .any, .any, .any, .any, .any, .any, .any, .any, .any, .any, .any, .any, .any, .any, .any, .any, .any, .any, .any, .any, .any, .any, .any, .any, .any, .any, .any, .any, .any, .any, .any, .any, .any, .any, .any, .any, .any, .any, .any, .any, .any, .any, .any, .any, .any, .any, .any, .any, .any, .any, .any, .any, .any, .any, .any, .any, .any, .any, .any, .any, .any, .any, .any, .any, .any, .any, .any, .any, .any, .any, .any, .any, .any, .any, .any, .any, .any, .any, .any, .any, .any, .any, .any, .any, .any, .any, .any, .any, .any, .any, .any, .any, .any, .any, .any, .any, .any, .any, .any, .any, .any, .any, .any, .any]) s1 := by
  have hb' := bodyU_eq Tryd.func33 rfl
  have hr : memoU = _ := congrArg (fun c => hdC (tlC c)) hb'
  simp only [tlC, hdC] at hr
  rw [hr]
  clear hr hb'
  refine awp_c (M := [4, 5]) ?_
  have y0 := cells_facts e0
  have y1 := cells_facts e1
  have hlp := lt_of_get e0
  have hlp1 := lt_of_get e1
  have e2 : (s1 ++ [Ob.cells [.sc (.int .i64 a.v), .sc (.int .i64 b.v)]])[s1.length]? = some (.cells [.sc (.int .i64 a.v), .sc (.int .i64 b.v)]) := by simp
  obtain ⟨s2, hs2⟩ : ∃ s2, s1 ++ [Ob.cells [.sc (.int .i64 a.v), .sc (.int .i64 b.v)]] = s2 := ⟨_, rfl⟩
  rw [hs2] at e2
  have hold : ∀ j o, s1[j]? = some o → s2[j]? = some o := fun j o hj => by rw [← hs2, List.getElem?_append_left (lt_of_get hj)]; exact hj
  have hT2 : TSt s2 id mid vs M := by rw [← hs2]; exact hT1.app _
  have hG2 : G2 mid oid s1 s2 := by rw [← hs2]; exact (G2.refl _ _ s1).app _
  have hO2 := hold _ _ eO
  have f2 := cells_facts e2
  have w0 := cells_facts (hold _ _ e0)
  have w1 := cells_facts (hold _ _ e1)
  by_cases hav : a.v = 0
  · have b0 : (a.v != 0) = false := by simp [hav]
    simp only [go_sem, reduceCtorEq, Nat.reduceAdd, Nat.reduceMul, Nat.reduceLeDiff, Nat.reduceLT, Int.reduceLE, Int.reduceLT, Int.reduceEq, Nat.reduceBEq, Nat.reduceEqDiff, y0.1, y0.2.1, y0.2.2, y1.1, y1.2.1, y1.2.2, w0.1, w0.2.1, w0.2.2, w1.1, w1.2.1, w1.2.2, b0, hs2]
    refine h2 _ s2 Q (by unfold frU; repeat (first | exact leEnv_nil | refine leEnv_any _ ?_ | refine leEnv_same _ ?_ | refine leEnv_norm _ ?_)) ⟨fun h => h.1 hav, ?_, hold _ _ e0, hold _ _ e1, hO2, hG2, hT2, hUG.rg⟩
    funext x y
    unfold addP
    simp [hav]
  · have b0 : (a.v != 0) = true := by simp [hav]
    by_cases hbv : b.v = 0
    · have b1 : (b.v != 0) = false := by simp [hbv]
      simp only [go_sem, reduceCtorEq, Nat.reduceAdd, Nat.reduceMul, Nat.reduceLeDiff, Nat.reduceLT, Int.reduceLE, Int.reduceLT, Int.reduceEq, Nat.reduceBEq, Nat.reduceEqDiff, y0.1, y0.2.1, y0.2.2, y1.1, y1.2.1, y1.2.2, w0.1, w0.2.1, w0.2.2, w1.1, w1.2.1, w1.2.2, b0, b1, hs2]
      refine h2 _ s2 Q (by unfold frU; repeat (first | exact leEnv_nil | refine leEnv_any _ ?_ | refine leEnv_same _ ?_ | refine leEnv_norm _ ?_)) ⟨fun h => h.2.1 hbv, ?_, hold _ _ e0, hold _ _ e1, hO2, hG2, hT2, hUG.rg⟩
      funext x y
      unfold addP
      simp [hbv]
    · have b1 : (b.v != 0) = true := by simp [hbv]
      have ra := gp_var ha hav
      have rb := gp_var hb hbv
      have hk : Rg (a.v, b.v) := ⟨⟨by show (-1000000 : Int) ≤ a.v; omega, by show a.v ≤ (1000000 : Int); omega⟩, ⟨by show (-1000000 : Int) ≤ b.v; omega, by show b.v ≤ (1000000 : Int); omega⟩⟩
      have hg := q_get hUG.rg hk hO2
      by_cases hm : (a.v, b.v) ∈ Q
      · simp only [hm, if_true, decide_true] at hg
        simp only [go_sem, reduceCtorEq, Nat.reduceAdd, Nat.reduceMul, Nat.reduceLeDiff, Nat.reduceLT, Int.reduceLE, Int.reduceLT, Int.reduceEq, Nat.reduceBEq, Nat.reduceEqDiff, y0.1, y0.2.1, y0.2.2, y1.1, y1.2.1, y1.2.2, w0.1, w0.2.1, w0.2.2, w1.1, w1.2.1, w1.2.2, b0, b1, hs2, f2.1, f2.2.1, f2.2.2, hg]
        exact h1 ⟨hav, hbv, by unfold hasQ; simp [hm]⟩ _ s2 rfl hG2 hT2 hO2
      · simp only [hm, if_false, decide_false] at hg
        simp only [go_sem, reduceCtorEq, Nat.reduceAdd, Nat.reduceMul, Nat.reduceLeDiff, Nat.reduceLT, Int.reduceLE, Int.reduceLT, Int.reduceEq, Nat.reduceBEq, Nat.reduceEqDiff, y0.1, y0.2.1, y0.2.2, y1.1, y1.2.1, y1.2.2, w0.1, w0.2.1, w0.2.2, w1.1, w1.2.1, w1.2.2, b0, b1, hs2, f2.1, f2.2.1, f2.2.2, hg]
        obtain ⟨s3, hs3⟩ : ∃ s3, s2.set oid (.map (qE0 Q (a.v, b.v))) = s3 := ⟨_, rfl⟩
        obtain ⟨s0, hs0⟩ : ∃ s0, s2.set oid (.map (qEs (Q ++ [(a.v, b.v)]) 1)) = s0 := ⟨_, rfl⟩
        have k2 : s3[s1.length]? = some (.cells [.sc (.int .i64 a.v), .sc (.int .i64 b.v)]) := by rw [← hs3, List.getElem?_set_ne (by omega)]; exact e2
        have kO : s3[oid]? = some (.map (qE0 Q (a.v, b.v))) := by rw [← hs3]; exact List.getElem?_set_self (lt_of_get hO2)
        have hg2 := q_get0 hUG.rg hk hm kO
        refine awp_drawD [] [5, 7] [([], s2), ([5], s3), ([5, 7], s0)] [[[]], [[]], [[]], [[], [5]], [[], [5]], [[]], [[5]], [[5]]] Tryd.mixed rfl rfl rfl rfl rfl ?_
        have hw : IntKind.i64.wrap (0 + 1) = 1 := rfl
        have hen := fun K => q_entry hUG.rg hk hm hO2 K
        have hst := fun K hK => q_stamp (k := (a.v, b.v)) kO K hK
        have hss : s3.set oid (.map (qEs (Q ++ [(a.v, b.v)]) 1)) = s0 := by rw [← hs3, set_set_same]; exact hs0
        rw [hss] at hst
        refine dD_p1 rfl (.ref [.mp oid]) (by simp only [go_sem, reduceCtorEq, Nat.reduceAdd, Nat.reduceMul, Nat.reduceLeDiff, Nat.reduceLT, Int.reduceLE, Int.reduceLT, Int.reduceEq, Nat.reduceBEq, Nat.reduceEqDiff]) ?_
        refine dD_p1 rfl (.mp oid) (by simp only [go_sem, reduceCtorEq, Nat.reduceAdd, Nat.reduceMul, Nat.reduceLeDiff, Nat.reduceLT, Int.reduceLE, Int.reduceLT, Int.reduceEq, Nat.reduceBEq, Nat.reduceEqDiff]) ?_
        refine dD_p1 rfl (.agg [.sc (.int .i64 a.v), .sc (.int .i64 b.v)]) (by simp only [go_sem, reduceCtorEq, Nat.reduceAdd, Nat.reduceMul, Nat.reduceLeDiff, Nat.reduceLT, Int.reduceLE, Int.reduceLT, Int.reduceEq, Nat.reduceBEq, Nat.reduceEqDiff, f2.1, f2.2.1, f2.2.2]) ?_
        refine dD_p2 rfl (.sc (.int .i64 0)) (by simp only [go_sem, reduceCtorEq, Nat.reduceAdd, Nat.reduceMul, Nat.reduceLeDiff, Nat.reduceLT, Int.reduceLE, Int.reduceLT, Int.reduceEq, Nat.reduceBEq, Nat.reduceEqDiff, hg]) (by simp only [go_sem, reduceCtorEq, Nat.reduceAdd, Nat.reduceMul, Nat.reduceLeDiff, Nat.reduceLT, Int.reduceLE, Int.reduceLT, Int.reduceEq, Nat.reduceBEq, Nat.reduceEqDiff, hg2]) ?_
        refine dD_p2 rfl (.sc (.int .i64 1)) (by simp only [go_sem, reduceCtorEq, Nat.reduceAdd, Nat.reduceMul, Nat.reduceLeDiff, Nat.reduceLT, Int.reduceLE, Int.reduceLT, Int.reduceEq, Nat.reduceBEq, Nat.reduceEqDiff, hw]) (by simp only [go_sem, reduceCtorEq, Nat.reduceAdd, Nat.reduceMul, Nat.reduceLeDiff, Nat.reduceLT, Int.reduceLE, Int.reduceLT, Int.reduceEq, Nat.reduceBEq, Nat.reduceEqDiff, hw]) ?_
        refine dD_t1 (d := [5]) rfl rfl (.tuple [.sc (.int .i64 0), .stamp oid Q.length]) rfl ?_ ?_
        · simp only [go_sem, reduceCtorEq, Nat.reduceAdd, Nat.reduceMul, Nat.reduceLeDiff, Nat.reduceLT, Int.reduceLE, Int.reduceLT, Int.reduceEq, Nat.reduceBEq, Nat.reduceEqDiff, hen, hs3]
        refine dD_p1 rfl (.stamp oid Q.length) (by simp only [go_sem, reduceCtorEq, Nat.reduceAdd, Nat.reduceMul, Nat.reduceLeDiff, Nat.reduceLT, Int.reduceLE, Int.reduceLT, Int.reduceEq, Nat.reduceBEq, Nat.reduceEqDiff]) ?_
        refine dD_t1 (d := [5, 7]) rfl rfl .any rfl ?_ ?_
        · simp only [go_sem, reduceCtorEq, Nat.reduceAdd, Nat.reduceMul, Nat.reduceLeDiff, Nat.reduceLT, Int.reduceLE, Int.reduceLT, Int.reduceEq, Nat.reduceBEq, Nat.reduceEqDiff]
          exact ⟨rfl, (hst (fun x => x = s0) rfl).2⟩
        refine dD_end ?_
        simp only [go_sem, reduceCtorEq, Nat.reduceAdd, Nat.reduceMul, Nat.reduceLeDiff, Nat.reduceLT, Int.reduceLE, Int.reduceLT, Int.reduceEq, Nat.reduceBEq, Nat.reduceEqDiff]
        refine h2 _ s0 (Q ++ [(a.v, b.v)]) (by unfold frU; repeat (first | exact leEnv_nil | refine leEnv_any _ ?_ | refine leEnv_same _ ?_ | refine leEnv_norm _ ?_)) ⟨fun h => hm (by have := h.2.2; unfold hasQ at this; simpa using this), ?_, ?_, ?_, ?_, ?_, ?_, ?_⟩
        · funext x y
          unfold addP hasQ
          rw [Bool.eq_iff_iff]
          simp [hav, hbv]
        · rw [← hs0, List.getElem?_set_ne (by omega)]; exact hold _ _ e0
        · rw [← hs0, List.getElem?_set_ne (by omega)]; exact hold _ _ e1
        · rw [← hs0]; exact List.getElem?_set_self (lt_of_get hO2)
        · rw [← hs0]; exact hG2.set (.inr (.inr rfl)) _
        · rw [← hs0]
          exact ⟨by rw [List.getElem?_set_ne hi1]; exact hT2.hid, by rw [List.getElem?_set_ne hi2]; exact hT2.hm⟩
        · intro k h
          rcases List.mem_append.1 h with h | h
          · exact hUG.rg k h
          · rw [List.mem_singleton.1 h]; exact hk

set_option maxHeartbeats 4000000 in
theorem heads_c {id mid oid : Nat} {vs : Int} {a b : Ty} {M : List (Int × Ty)} {s0 : St} {p : Nat} (hE : EndB (gmGet M)) (hG : Gb (gmGet M)) (ha : gd a = true) (hb : gd b = true) (gT : TSt s0 id mid vs M)
    (g0 : s0[p]? = some (.cells [.sc (.int .i64 a.v), .sc (.string a.name), .slice .imm 3 (a.args.map tySV)])) (g1 : s0[p + 1]? = some (.cells [.sc (.int .i64 b.v), .sc (.string b.name), .slice .imm 3 (b.args.map tySV)])) (Z : Exit → List SV → St → Prop)
    (h2 : ∀ env, LeEnv env (frU (.ref [.ptr id 0, .mp oid]) p) → Z .normal env ((s0.set p (.cells [.sc (.int .i64 (LK (gmGet M) a).v), .sc (.string (LK (gmGet M) a).name), .slice .imm 3 ((LK (gmGet M) a).args.map tySV)])).set (p + 1)
      (.cells [.sc (.int .i64 (LK (gmGet M) b).v), .sc (.string (LK (gmGet M) b).name), .slice .imm 3 ((LK (gmGet M) b).args.map tySV)]))) :
    AWp Tryd.prog headsU Z (frU (.ref [.ptr id 0, .mp oid]) p) s0 := by
  have hb' := bodyU_eq Tryd.func33 rfl
  have hr : headsU = _ := congrArg (fun c => hdC (tlC (tlC c))) hb'
  simp only [tlC, hdC] at hr
  rw [hr]
  clear hr hb'
  unfold frU
  refine awp_c (M := [4, 5]) ?_
  have hlk := fun t hg K h => @look_c s0 id mid vs M gT hE hG t hg K h
  obtain ⟨la, hla⟩ : ∃ la, la = LK (gmGet M) a := ⟨_, rfl⟩
  obtain ⟨lb, hlb⟩ : ∃ lb, lb = LK (gmGet M) b := ⟨_, rfl⟩
  have hl1 := hlk a ha
  have hl2 := hlk b hb
  rw [← hla, tySV_eq a] at hl1
  rw [← hlb, tySV_eq b] at hl2
  rw [← hla, ← hlb] at h2
  have hcla := cells_ty la
  have hclb := cells_ty lb
  have p0 := cells_facts g0
  have p1 := cells_facts g1
  obtain ⟨sA, hsA⟩ : ∃ sA, s0.set p (.cells [.sc (.int .i64 la.v), .sc (.string la.name), .slice .imm 3 (la.args.map tySV)]) = sA := ⟨_, rfl⟩
  obtain ⟨sB, hsB⟩ : ∃ sB, sA.set (p + 1) (.cells [.sc (.int .i64 lb.v), .sc (.string lb.name), .slice .imm 3 (lb.args.map tySV)]) = sB := ⟨_, rfl⟩
  rw [hsA, hsB] at h2
  have pA : sA[p + 1]? = some (.cells [.sc (.int .i64 b.v), .sc (.string b.name), .slice .imm 3 (b.args.map tySV)]) := by rw [← hsA, List.getElem?_set_ne (by omega)]; exact g1
  have qA := cells_facts pA
  simp only [go_sem, reduceCtorEq, Nat.reduceAdd, Nat.reduceMul, Nat.reduceLeDiff, Nat.reduceLT, Int.reduceLE, Int.reduceLT, Int.reduceEq, Nat.reduceBEq, Nat.reduceEqDiff]
  refine awp_drawE [] [8, 9] [0, 1, 2, 3, 4, 5, 6, 7] (fun _ => True) Tryd.mixed rfl rfl rfl rfl trivial ?_
  refine dE_early rfl rfl (.ref [.ptr id 0]) (by simp only [go_sem, reduceCtorEq, Nat.reduceAdd, Nat.reduceMul, Nat.reduceLeDiff, Nat.reduceLT, Int.reduceLE, Int.reduceLT, Int.reduceEq, Nat.reduceBEq, Nat.reduceEqDiff]) ?_
  refine dE_early rfl rfl (.ptr id 0) (by simp only [go_sem, reduceCtorEq, Nat.reduceAdd, Nat.reduceMul, Nat.reduceLeDiff, Nat.reduceLT, Int.reduceLE, Int.reduceLT, Int.reduceEq, Nat.reduceBEq, Nat.reduceEqDiff]) ?_
  refine dE_early rfl rfl (.agg [.sc (.int .i64 a.v), .sc (.string a.name), .slice .imm 3 (a.args.map tySV)]) (by simp only [go_sem, reduceCtorEq, Nat.reduceAdd, Nat.reduceMul, Nat.reduceLeDiff, Nat.reduceLT, Int.reduceLE, Int.reduceLT, Int.reduceEq, Nat.reduceBEq, Nat.reduceEqDiff, p0.1, p0.2.1, p0.2.2]) ?_
  refine dE_early rfl rfl (tySV la) ?_ ?_
  · simp only [go_sem, reduceCtorEq, Nat.reduceAdd, Nat.reduceMul, Nat.reduceLeDiff, Nat.reduceLT, Int.reduceLE, Int.reduceLT, Int.reduceEq, Nat.reduceBEq, Nat.reduceEqDiff]
    refine ⟨_, ?_, rfl⟩
    simp only [go_sem, reduceCtorEq, Nat.reduceAdd, Nat.reduceMul, Nat.reduceLeDiff, Nat.reduceLT, Int.reduceLE, Int.reduceLT, Int.reduceEq, Nat.reduceBEq, Nat.reduceEqDiff]
    exact hl1 _ ⟨⟨[], by simp⟩, ids_ty _ _, .inl rfl⟩
  refine dE_early rfl rfl (.ref [.ptr id 0]) (by simp only [go_sem, reduceCtorEq, Nat.reduceAdd, Nat.reduceMul, Nat.reduceLeDiff, Nat.reduceLT, Int.reduceLE, Int.reduceLT, Int.reduceEq, Nat.reduceBEq, Nat.reduceEqDiff]) ?_
  refine dE_early rfl rfl (.ptr id 0) (by simp only [go_sem, reduceCtorEq, Nat.reduceAdd, Nat.reduceMul, Nat.reduceLeDiff, Nat.reduceLT, Int.reduceLE, Int.reduceLT, Int.reduceEq, Nat.reduceBEq, Nat.reduceEqDiff]) ?_
  refine dE_early rfl rfl (.agg [.sc (.int .i64 b.v), .sc (.string b.name), .slice .imm 3 (b.args.map tySV)]) (by simp only [go_sem, reduceCtorEq, Nat.reduceAdd, Nat.reduceMul, Nat.reduceLeDiff, Nat.reduceLT, Int.reduceLE, Int.reduceLT, Int.reduceEq, Nat.reduceBEq, Nat.reduceEqDiff, p1.1, p1.2.1, p1.2.2]) ?_
  refine dE_early rfl rfl (tySV lb) ?_ ?_
  · simp only [go_sem, reduceCtorEq, Nat.reduceAdd, Nat.reduceMul, Nat.reduceLeDiff, Nat.reduceLT, Int.reduceLE, Int.reduceLT, Int.reduceEq, Nat.reduceBEq, Nat.reduceEqDiff]
    refine ⟨_, ?_, rfl⟩
    simp only [go_sem, reduceCtorEq, Nat.reduceAdd, Nat.reduceMul, Nat.reduceLeDiff, Nat.reduceLT, Int.reduceLE, Int.reduceLT, Int.reduceEq, Nat.reduceBEq, Nat.reduceEqDiff]
    exact hl2 _ ⟨⟨[], by simp⟩, ids_ty _ _, .inl rfl⟩
  refine dE_turn rfl .any sA ?_ rfl trivial ?_
  · simp only [go_sem, reduceCtorEq, Nat.reduceAdd, Nat.reduceMul, Nat.reduceLeDiff, Nat.reduceLT, Int.reduceLE, Int.reduceLT, Int.reduceEq, Nat.reduceBEq, Nat.reduceEqDiff, hcla, p0.1, p0.2.1, p0.2.2]
    exact hsA
  refine dE_turn rfl .any sB ?_ rfl trivial ?_
  · simp only [go_sem, reduceCtorEq, Nat.reduceAdd, Nat.reduceMul, Nat.reduceLeDiff, Nat.reduceLT, Int.reduceLE, Int.reduceLT, Int.reduceEq, Nat.reduceBEq, Nat.reduceEqDiff, hclb, qA.1, qA.2.1, qA.2.2]
    exact hsB
  refine dE_end ?_
  simp only [go_sem, reduceCtorEq, Nat.reduceAdd, Nat.reduceMul, Nat.reduceLeDiff, Nat.reduceLT, Int.reduceLE, Int.reduceLT, Int.reduceEq, Nat.reduceBEq, Nat.reduceEqDiff]
  exact h2 _ (by unfold frU; repeat (first | exact leEnv_nil | refine leEnv_any _ ?_ | refine leEnv_same _ ?_ | refine leEnv_norm _ ?_))

end Go.Proofs
set_option linter.unusedSimpArgs false
set_option linter.unusedVariables false
set_option maxRecDepth 8000
namespace Go.Proofs
open Go Go.AL

set_option maxHeartbeats 4000000 in
theorem unify_c {id mid oid : Nat} {vs : Int} (hvs : 0 ≤ vs ∧ vs ≤ 1000) (hi1 : oid ≠ id) (hi2 : oid ≠ mid) (hi3 : mid ≠ id) : ∀ (q n : Nat) (a b : Ty) (M : List (Int × Ty)) (Q : List (Int × Int)) (K : SV → St → Prop) (st : St),
    unb vs (gmGet M) ≤ q → nd (AP (gmGet M) a) ≤ n → goodB (ownP vs) a = true → goodB (ownP vs) b = true → nd a ≤ 1000 → nd b ≤ 1000 → nmB a = true → nmB b = true → UG vs M Q → TSt st id mid vs M → st[oid]? = some (.map (qEs Q 1)) →
    (∀ (e : Int) s M' Q', UP st id mid oid vs M Q [a] [b] e s M' Q' → K (.sc (.int .i64 e)) s) → ACalls Tryd.prog 33 [.agg [.ptr id 0, .mp oid], tySV a, tySV b] K st := by
  intro q
  induction q using Nat.strongRecOn with
  | _ q ihq =>
  intro n
  induction n with
  | zero => intro a b M Q K st _ hn; have := nd_pos (AP (gmGet M) a); omega
  | succ n ihn =>
    intro a b M Q K st hq hn ha hb hna hnb hma hmb hUG hT hO h
    refine acalls_goA (c := bodyU) Tryd.func33 (by rw [bodyU_eq Tryd.func33 rfl]; rfl) Tryd.results33 Tryd.ntmps33 ?_
    rw [bodyU_shape]
    have hca := cells_ty a
    have hcb := cells_ty b
    obtain ⟨s1, hs1⟩ : ∃ s1, st ++ [Ob.cells (tySV a).cells, Ob.cells (tySV b).cells] = s1 := ⟨_, rfl⟩
    have e0 : s1[st.length]? = some (.cells (tySV a).cells) := by rw [← hs1]; simp
    have e1 : s1[st.length + 1]? = some (.cells (tySV b).cells) := by rw [← hs1]; simp
    have eO : s1[oid]? = some (.map (qEs Q 1)) := by rw [← hs1]; exact (List.getElem?_append_left (lt_of_get hO)).trans hO
    have hG1 : G2 mid oid st s1 := by rw [← hs1]; exact (G2.refl _ _ st).app _
    have hT1 : TSt s1 id mid vs M := by rw [← hs1]; exact hT.app _
    rw [hca] at e0
    rw [hcb] at e1
    have hp : id < st.length ∧ mid < st.length ∧ oid < st.length := ⟨lt_of_get hT.hid, lt_of_get hT.hm, lt_of_get hO⟩
    refine awp_seq (AWp.mono (Q := fun e env s => e = .normal ∧ LeEnv env [.any, .any, .any, .ref [.ptr id 0, .mp oid], .ptr st.length 0, .ptr (st.length + 1) 0, .sc (.int .i64 0), .any, .any, .any, .any, .any, .any, .any, .any, .any, .any, .any, .any, .any, .any, .any, .any, .any, .any, .any, .any, .any, .any, .any, .any, .any, .any, .any, .any, .any, .any, .any, .any, .any, .any, .any, .any, .any, .any, .any, .any, .any, .any, .any, .any, .any, .any, .any, .any, .any, .any, .any, .any, .any, .any, .any, .any, .any, .any, .any, .any, .any, .any, .any, .any, .any, .any, .any, .any, .any, .any, .any, .any, .any, .any, .any, .any, .any, .any, .any, .any, .any, .any, .any, .any, .any, .any, .any, .any, .any, .any, .any, .any, .any, .any, .any, .any, .any, .any, .any, .any, .any, .any, .any, .any, .any, .any, .any, .any, .any, .any, .any, .any, .any, .any] ∧ s = s1) ?_ ?_)
    · rw [bodyU_eq Tryd.func33 rfl]
      simp only [hdC]
      refine awp_c (M := [4, 5]) ?_
      simp only [go_sem, reduceCtorEq, Nat.reduceAdd, Nat.reduceMul, Nat.reduceLeDiff, Nat.reduceLT, Int.reduceLE, Int.reduceLT, Int.reduceEq, Nat.reduceBEq, Nat.reduceEqDiff, hs1]
      repeat (first | exact leEnv_nil | refine leEnv_any _ ?_ | refine leEnv_same _ ?_ | refine leEnv_norm _ ?_)
    rintro e env s ⟨rfl, hle, rfl⟩
    show AWp _ _ _ _ _
    refine awp_weaken hle (awp_seq ?_)
    refine memo_c hvs hi1 hi2 (p := st.length) hp ha hb hUG e0 e1 hT1 eO _ (fun hm env s' h6 t1 t2 t3 => ?_) (fun env s' Q0 hl hR => ?_)
    · exact retR6 h6 (h 0 s' M Q ⟨.memo hm .nil, hUG, .inl rfl, t2, t3, hG1.trans t1⟩)
    show AWp _ _ _ _ _
    refine awp_weaken hl (awp_seq ?_)
    have hE := hUG.ends
    have hGb := hUG.gp.gb
    have hga := good_gd ha
    have hgb := good_gd hb
    refine heads_c hE hGb hga hgb hR.tst hR.c4 hR.c5 _ (fun env hl2 => ?_)
    show AWp _ _ _ _ _
    refine awp_weaken hl2 ?_
    have hsp := LK_spec hE hGb hga
    have hsq := LK_spec hE hGb hgb
    have hgpa := LK_gp hE hUG.gp ha
    have hgpb := LK_gp hE hUG.gp hb
    have hsma := LK_sm hE hGb hUG.sm hga hna
    have hsmb := LK_sm hE hGb hUG.sm hgb hnb
    have hnma := LK_nm hE hGb hUG.nm hga hma
    have hnmb := LK_nm hE hGb hUG.nm hgb hmb
    have l4 := lt_of_get hR.c4
    have l5 := lt_of_get hR.c5
    have ko : ∀ X Y : Ob, ∀ j, j ≠ st.length → j ≠ st.length + 1 → ((s'.set st.length X).set (st.length + 1) Y)[j]? = s'[j]? := fun X Y j q1 q2 => by rw [List.getElem?_set_ne (by omega), List.getElem?_set_ne (by omega)]
    have k4 : ∀ X Y : Ob, ((s'.set st.length X).set (st.length + 1) Y)[st.length]? = some X := fun X Y => by rw [List.getElem?_set_ne (by omega), List.getElem?_set_self l4]
    have k5 : ∀ X Y : Ob, ((s'.set st.length X).set (st.length + 1) Y)[st.length + 1]? = some Y := fun X Y => List.getElem?_set_self (by rw [List.length_set]; exact l5)
    refine rest_c (M := M) (Q := Q0) ⟨hE, hUG.gp, hUG.sm, hUG.nm, hR.rg⟩ hgpa hgpb hsp.2.2 hsq.2.2 hsma hsmb hnma hnmb ⟨(ko _ _ _ (by omega) (by omega)).trans hR.tst.hid, (ko _ _ _ (by omega) (by omega)).trans hR.tst.hm⟩ ((ko _ _ _ (by omega) (by omega)).trans hR.one) hi1 hi2 hi3 hp (k4 _ _) (k5 _ _) ?_ K (fun e s2 M' Q' u => ?_)
    · intro a' b' M1 Q1 K' s2 va vb ma mb hmv hUG1 hT2 hO2 hK
      have na' : nd a' ≤ 1000 := by have := nd_mem ma; have := nd_eq (LK (gmGet M) a); omega
      have nb' : nd b' ≤ 1000 := by have := nd_mem mb; have := nd_eq (LK (gmGet M) b); omega
      rcases hmv with hmv | hmv
      · refine ihn a' b' M1 Q1 K' s2 (by rw [hmv]; exact hq) ?_ (gp_args hgpa va a' ma) (gp_args hgpb vb b' mb) na' nb' (nm_args hnma a' ma) (nm_args hnmb b' mb) hUG1 hT2 hO2 hK
        rw [hmv]
        have e1 := head_tree hE hGb hga
        have : AP (gmGet M) a' ∈ (AP (gmGet M) a).args := by rw [e1]; exact List.mem_map_of_mem ma
        have := nd_mem this
        have := nd_eq (AP (gmGet M) a)
        omega
      · exact ihq (unb vs (gmGet M1)) (by omega) _ a' b' M1 Q1 K' s2 (Nat.le_refl _) (Nat.le_refl _) (gp_args hgpa va a' ma) (gp_args hgpb vb b' mb) na' nb' (nm_args hnma a' ma) (nm_args hnmb b' mb) hUG1 hT2 hO2 hK
    · refine h e s2 M' Q' ⟨u.uni (hasQ Q) a b hR.nm hR.add.symm rfl rfl, u.ug, u.mv, u.tst, u.one, ?_⟩
      have hg := hG1.trans hR.g2
      refine ⟨by have := u.g4.len; rw [List.length_set, List.length_set] at this; have := hg.len; omega, fun j hj n1 n2 => ?_⟩
      have := hg.len
      rw [u.g4.same j (by rw [List.length_set, List.length_set]; omega) n1 n2 (by omega) (by omega), ko _ _ _ (by omega) (by omega)]
      exact hg.same j hj n1 n2

end Go.Proofs
