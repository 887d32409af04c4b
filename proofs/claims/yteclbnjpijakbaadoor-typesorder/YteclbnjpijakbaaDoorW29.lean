/- The document: unify, the arguments one after the other (F38). -/
import Derived.Test.YteclbnjpijakbaaDoorM11
set_option linter.unusedSimpArgs false
set_option linter.unusedVariables false
set_option maxRecDepth 8000
namespace Go.Proofs
open Go Go.AL

/-- A good state of the document. -/
structure RG (n : Int) (B : Bd) : Prop where
  bg : BG n B
  sm : Sm B
  nm : NG B
theorem RG.bind {n : Int} {B : Bd} (h : RG n B) {x : Int} (hx : B x = none) {c : Ty} (hc : goodB (ownP n) c = true) (hn : nd c ≤ 1000) (hm : nmB c = true) (ho : x ∉ vsT (AP B c)) : RG n (bindB B x c) := by
  refine ⟨⟨h.bg.ends.bind h.bg.gp.gb hx (good_gd hc) ho, fun v b hb => ?_⟩, fun v b hb => ?_, fun v b hb => ?_⟩
  · unfold bindB at hb
    split at hb
    · cases hb; exact hc
    · exact h.bg.gp v b hb
  · unfold bindB at hb
    split at hb
    · cases hb; exact hn
    · exact h.sm v b hb
  · unfold bindB at hb
    split at hb
    · cases hb; exact hm
    · exact h.nm v b hb

structure UQ (st : St) (id a b va vb tid : Nat) (R : List (Option Ty)) (Q : List (Int × Int)) (xs ys : List Ty) (e : Int) (s : St) (R' : List (Option Ty)) (Q' : List (Int × Int)) : Prop where
  uni : UniL (gR R) (hasQ Q) xs ys e (gR R') (hasQ Q')
  rg : RG R.length (gR R')
  len : R'.length = R.length
  qg : QG R.length Q'
  mv : gR R' = gR R ∨ unb R.length (gR R') < unb R.length (gR R)
  rst : RSt s id a b va vb R'
  tok : s[tid]? = some (.tok Q'.length)
  gs : Gs [a, b, tid] st s

set_option maxHeartbeats 4000000 in
theorem lV_c {id a b va vb tid : Nat} {R : List (Option Ty)} {Q : List (Int × Int)} (hRG : RG R.length (gR R)) (hQ : QG R.length Q) {p : Nat} {s : St} {la lb : Ty} (hll : la.args.length = lb.args.length) (hla : la.args.length ≤ 100000)
    (hR : RSt s id a b va vb R) (hk : s[tid]? = some (.tok Q.length))
    (h4 : s[p]? = some (.cells [.sc (.int .i64 la.v), .sc (.string la.name), .slice .imm 3 (la.args.map tySV)])) (h5 : s[p + 1]? = some (.cells [.sc (.int .i64 lb.v), .sc (.string lb.name), .slice .imm 3 (lb.args.map tySV)]))
    (rec : ∀ (x y : Ty) (R1 : List (Option Ty)) (Q1 : List (Int × Int)) (K : SV → St → Prop) (s1 : St), x ∈ la.args → y ∈ lb.args → R1.length = R.length → (gR R1 = gR R ∨ unb R.length (gR R1) < unb R.length (gR R)) → RG R.length (gR R1) → QG R.length Q1 → RSt s1 id a b va vb R1 → s1[tid]? = some (.tok Q1.length) →
      (∀ (e : Int) s2 R' Q', UQ s1 id a b va vb tid R1 Q1 [x] [y] e s2 R' Q' → K (.tuple [prsV tid Q', .sc (.int .i64 e)]) s2) → ACalls Tryd.prog 38 [.ptr id 0, tySV x, tySV y, prsV tid Q1] K s1)
    (K : SV → St → Prop) (h : ∀ (e : Int) s' R' Q', UQ s id a b va vb tid R Q la.args lb.args e s' R' Q' → K (.tuple [prsV tid Q', .sc (.int .i64 e)]) s') :
    AWp Tryd.prog lV (RetR Tryd.prog #[ResultVar.tmp 8, ResultVar.tmp 9].toList K) (frV id (prsV tid Q) p) s := by
  have hb := bodyV_eq Tryd.func38 rfl
  have hr : lV = _ := congrArg (fun c => tlC (tlC (tlC (tlC (tlC (tlC (tlC (tlC c)))))))) hb
  simp only [tlC] at hr
  rw [hr]
  clear hr hb
  unfold frV
  refine awp_c (M := []) ?_
  have hpt : ∀ j o, s[j]? = some (.cells o) → j ∉ [a, b, tid] := fun j o hj q => by
    simp only [List.mem_cons, List.not_mem_nil, or_false] at q
    rcases q with rfl | rfl | rfl
    · have := hj.symm.trans hR.ha; cases this
    · have := hj.symm.trans hR.hb; cases this
    · have := hj.symm.trans hk; cases this
  have hpr : ∀ Q' : List (Int × Int), prsV tid Q' = .slice (.own tid Q'.length) 2 (Q'.map pairV) := fun _ => rfl
  simp only [go_sem, reduceCtorEq, Nat.reduceAdd, Nat.reduceMul, Nat.reduceLeDiff, Nat.reduceLT, Int.reduceLE, Int.reduceLT, Int.reduceEq, Nat.reduceBEq, Nat.reduceEqDiff]
  refine awp_rounds [] (fun m e s1 => ∃ (k : Nat) (R1 : List (Option Ty)) (Q1 : List (Int × Int)), m + k = la.args.length ∧ UQ s id a b va vb tid R Q (la.args.take k) (lb.args.take k) 0 s1 R1 Q1 ∧
    e = [.ptr id 0, .any, .any, prsV tid Q1, .any, .ptr p 0, .ptr (p + 1) 0, .any, .any, .any, .any, .any, .any, .any, .sc (.int .i64 k), .any, .any, .any, .any, .any, .any, .any, .any, .any, .any, .any, .any, .any, .any, .any, .any, .any, .any, .any, .any, .any, .any, .any, .any, .any, .any, .any, .any, .any, .any, .any, .any, .any, .any, .any, .any, .any, .any, .any, .any, .any, .any, .any, .any, .any, .any, .any, .any, .any, .any, .any, .any, .any, .any, .any, .any, .any, .any, .any, .any, .any, .any, .any, .any, .any, .any, .any, .any, .any, .any, .any, .any, .any, .any, .any, .any, .any, .any, .any, .any, .any, .any, .any, .any, .any, .any, .any, .any, .any, .any, .any, .any, .any, .any, .any, .any, .any, .any, .any, .any, .any, .any, .any, .any, .any, .any, .any, .any, .any, .any, .any, .any, .any, .any, .any, .any, .any, .any, .any, .any, .any, .any, .any, .any, .any, .any, .any, .any, .any, .any, .any, .any, .any, .any, .any, .any, .any, .any, .any, .any, .any, .any, .any, .any, .any, .any, .any, .any, .any, .any, .any]) (n := la.args.length) ?_ ⟨0, R, Q, by omega, ⟨.nil, hRG, rfl, hQ, .inl rfl, hR, hk, Gs.refl _ s⟩, rfl⟩ ?_
  · repeat (first | exact leEnv_nil | refine leEnv_any _ ?_ | refine leEnv_same _ ?_ | refine leEnv_norm _ ?_)
  rintro m e s1 ⟨k, R1, Q1, hmk, hU, rfl⟩
  have z4 := cells_facts ((hU.gs.same _ (lt_of_get h4) (hpt _ _ h4)).trans h4)
  have z5 := cells_facts ((hU.gs.same _ (lt_of_get h5) (hpt _ _ h5)).trans h5)
  by_cases hlt : k < la.args.length
  · have hlt2 : k < lb.args.length := by omega
    have c1 : (k : Int) < (la.args.length : Int) := by omega
    have c2 : (k : Int) < (lb.args.length : Int) := by omega
    have c0 : (0 : Int) ≤ (k : Int) := by omega
    obtain ⟨x, had⟩ : ∃ x, x = la.args.getD k default := ⟨_, rfl⟩
    obtain ⟨y, hbd⟩ : ∃ y, y = lb.args.getD k default := ⟨_, rfl⟩
    have hgk : (la.args.map tySV).getD k .any = tySV x := by rw [had]; exact getD_mapT _ hlt
    have hgk2 : (lb.args.map tySV).getD k .any = tySV y := by rw [hbd]; exact getD_mapT _ hlt2
    have ham : x ∈ la.args := by rw [had]; simp [List.getD_eq_getElem?_getD, hlt]
    have hbm : y ∈ lb.args := by rw [hbd]; simp [List.getD_eq_getElem?_getD, hlt2]
    have hw : IntKind.i64.wrap ((k : Int) + 1) = ((k + 1 : Nat) : Int) := by rw [IntWalk.i64_in _ (by omega)]; rfl
    have hrec := fun K h => rec x y R1 Q1 K s1 ham hbm hU.len hU.mv hU.rg hU.qg hU.rst hU.tok h
    have htk : la.args.take (k + 1) = la.args.take k ++ [x] := by rw [take_snocT _ hlt, ← had]
    have htk2 : lb.args.take (k + 1) = lb.args.take k ++ [y] := by rw [take_snocT _ hlt2, ← hbd]
    have hstep : ∀ (e : Int) s2 R2 Q2, UQ s1 id a b va vb tid R1 Q1 [x] [y] e s2 R2 Q2 → UQ s id a b va vb tid R Q (la.args.take (k + 1)) (lb.args.take (k + 1)) e s2 R2 Q2 := fun e s2 R2 Q2 u => by
      rw [htk, htk2]
      refine ⟨uni_app0 hU.uni rfl u.uni, hU.len ▸ u.rg, u.len.trans hU.len, hU.len ▸ u.qg, ?_, u.rst, u.tok, hU.gs.trans u.gs⟩
      have hmv := u.mv
      rw [hU.len] at hmv
      rcases hU.mv with q | q <;> rcases hmv with r | r
      · exact .inl (r.trans q)
      · exact .inr (by rw [q] at r; exact r)
      · exact .inr (by rw [r]; exact q)
      · exact .inr (by omega)
    have herr : ∀ (e : Int) s2 R2 Q2, e ≠ 0 → UQ s1 id a b va vb tid R1 Q1 [x] [y] e s2 R2 Q2 → UQ s id a b va vb tid R Q la.args lb.args e s2 R2 Q2 := fun e s2 R2 Q2 he u => by
      have q := hstep e s2 R2 Q2 u
      refine ⟨?_, q.rg, q.len, q.qg, q.mv, q.rst, q.tok, q.gs⟩
      have := uni_err q.uni he (la.args.drop (k + 1)) (lb.args.drop (k + 1))
      rw [List.take_append_drop, List.take_append_drop] at this
      exact this
    simp only [go_sem, reduceCtorEq, Nat.reduceAdd, Nat.reduceMul, Nat.reduceLeDiff, Nat.reduceLT, Int.reduceLE, Int.reduceLT, Int.reduceEq, Nat.reduceBEq, Nat.reduceEqDiff, c1, z4.1, z4.2.1, z4.2.2]
    refine awp_drawN [] 12 Tryd.mixed rfl rfl ?_
    simp only [go_sem, reduceCtorEq, Nat.reduceAdd, Nat.reduceMul, Nat.reduceLeDiff, Nat.reduceLT, Int.reduceLE, Int.reduceLT, Int.reduceEq, Nat.reduceBEq, Nat.reduceEqDiff, z4.1, z4.2.1, z4.2.2, z5.1, z5.2.1, z5.2.2, c0, c1, c2, hgk, hgk2]
    refine hrec _ (fun e s2 R2 Q2 hU2 => ?_)
    by_cases he : e = 0
    · subst he
      simp only [go_sem, reduceCtorEq, Nat.reduceAdd, Nat.reduceMul, Nat.reduceLeDiff, Nat.reduceLT, Int.reduceLE, Int.reduceLT, Int.reduceEq, Nat.reduceBEq, Nat.reduceEqDiff, hw, bne_self_eq_false]
      refine ⟨m - 1, _, by omega, ?_, k + 1, R2, Q2, by omega, hstep _ _ _ _ hU2, rfl⟩
      repeat (first | exact leEnv_nil | refine leEnv_any _ ?_ | refine leEnv_same _ ?_ | refine leEnv_norm _ ?_)
    · have b0 : (e != 0) = true := by simp [he]
      simp only [go_sem, reduceCtorEq, Nat.reduceAdd, Nat.reduceMul, Nat.reduceLeDiff, Nat.reduceLT, Int.reduceLE, Int.reduceLT, Int.reduceEq, Nat.reduceBEq, Nat.reduceEqDiff, b0]
      exact h e s2 R2 Q2 (herr e s2 R2 Q2 he hU2)
  · obtain rfl : k = la.args.length := by omega
    simp only [go_sem, reduceCtorEq, Nat.reduceAdd, Nat.reduceMul, Nat.reduceLeDiff, Nat.reduceLT, Int.reduceLE, Int.reduceLT, Int.reduceEq, Nat.reduceBEq, Nat.reduceEqDiff, Int.lt_irrefl, z4.1, z4.2.1, z4.2.2]
    rw [List.take_length, hll, List.take_length] at hU
    exact h 0 s1 R1 Q1 hU

set_option maxHeartbeats 4000000 in
theorem pickV_c {id p : Nat} {s : St} {la lb : Ty} {X : SV}
    (h4 : s[p]? = some (.cells [.sc (.int .i64 la.v), .sc (.string la.name), .slice .imm 3 (la.args.map tySV)])) (h5 : s[p + 1]? = some (.cells [.sc (.int .i64 lb.v), .sc (.string lb.name), .slice .imm 3 (lb.args.map tySV)])) (Z : Exit → List SV → St → Prop)
    (h1 : la.v ≠ 0 → la.v = lb.v → ∀ env, env.getD 8 .any = X → env.getD 9 .any = .sc (.int .i64 0) → Z .ret env s)
    (h2 : ¬ (la.v ≠ 0 ∧ la.v = lb.v) → ∀ env, LeEnv env (frV id X p) → Z .normal env s) : AWp Tryd.prog sV Z (frV id X p) s := by
  have hb' := bodyV_eq Tryd.func38 rfl
  have hr : sV = _ := congrArg (fun c => hdC (tlC (tlC (tlC (tlC c))))) hb'
  simp only [tlC, hdC] at hr
  rw [hr]
  clear hr hb'
  unfold frV
  refine awp_c (M := []) ?_
  have f := cells_facts h4
  have g := cells_facts h5
  by_cases hlv : la.v = 0
  · have c0 : (la.v != 0) = false := by simp [hlv]
    simp only [go_sem, reduceCtorEq, Nat.reduceAdd, Nat.reduceMul, Nat.reduceLeDiff, Nat.reduceLT, Int.reduceLE, Int.reduceLT, Int.reduceEq, Nat.reduceBEq, Nat.reduceEqDiff, f.1, f.2.1, f.2.2, g.1, g.2.1, g.2.2, c0]
    exact h2 (fun q => q.1 hlv) _ (by unfold frV; repeat (first | exact leEnv_nil | refine leEnv_any _ ?_ | refine leEnv_same _ ?_ | refine leEnv_norm _ ?_))
  · have c0 : (la.v != 0) = true := by simp [hlv]
    by_cases hlw : la.v = lb.v
    · have c1 : (la.v == lb.v) = true := by simp [hlw]
      simp only [go_sem, reduceCtorEq, Nat.reduceAdd, Nat.reduceMul, Nat.reduceLeDiff, Nat.reduceLT, Int.reduceLE, Int.reduceLT, Int.reduceEq, Nat.reduceBEq, Nat.reduceEqDiff, f.1, f.2.1, f.2.2, g.1, g.2.1, g.2.2, c0, c1]
      exact h1 hlv hlw _ rfl rfl
    · have c1 : (la.v == lb.v) = false := by simp [hlw]
      simp only [go_sem, reduceCtorEq, Nat.reduceAdd, Nat.reduceMul, Nat.reduceLeDiff, Nat.reduceLT, Int.reduceLE, Int.reduceLT, Int.reduceEq, Nat.reduceBEq, Nat.reduceEqDiff, f.1, f.2.1, f.2.2, g.1, g.2.1, g.2.2, c0, c1]
      exact h2 (fun q => hlw q.2) _ (by unfold frV; repeat (first | exact leEnv_nil | refine leEnv_any _ ?_ | refine leEnv_same _ ?_ | refine leEnv_norm _ ?_))

set_option maxHeartbeats 4000000 in
theorem wV_c {id p : Nat} {s : St} {la lb : Ty} {X : SV}
    (h4 : s[p]? = some (.cells [.sc (.int .i64 la.v), .sc (.string la.name), .slice .imm 3 (la.args.map tySV)])) (h5 : s[p + 1]? = some (.cells [.sc (.int .i64 lb.v), .sc (.string lb.name), .slice .imm 3 (lb.args.map tySV)])) (Z : Exit → List SV → St → Prop)
    (h1 : ¬ (la.v = 0 ∧ lb.v ≠ 0) → ∀ env, LeEnv env (frV id X p) → Z .normal env s)
    (h2 : la.v = 0 → lb.v ≠ 0 → ∀ env s', LeEnv env (frV id X p) → s'[p]? = some (.cells [.sc (.int .i64 lb.v), .sc (.string lb.name), .slice .imm 3 (lb.args.map tySV)]) → s'[p + 1]? = some (.cells [.sc (.int .i64 la.v), .sc (.string la.name), .slice .imm 3 (la.args.map tySV)]) → Gs [p, p + 1] s s' → Z .normal env s') : AWp Tryd.prog wV Z (frV id X p) s := by
  have hb' := bodyV_eq Tryd.func38 rfl
  have hr : wV = _ := congrArg (fun c => hdC (tlC (tlC (tlC (tlC (tlC c)))))) hb'
  simp only [tlC, hdC] at hr
  rw [hr]
  clear hr hb'
  unfold frV
  refine awp_c (M := []) ?_
  have f := cells_facts h4
  have g := cells_facts h5
  by_cases hlv : la.v = 0
  · have c0 : (la.v == 0) = true := by simp [hlv]
    by_cases hlw : lb.v = 0
    · have c1 : (lb.v != 0) = false := by simp [hlw]
      simp only [go_sem, reduceCtorEq, Nat.reduceAdd, Nat.reduceMul, Nat.reduceLeDiff, Nat.reduceLT, Int.reduceLE, Int.reduceLT, Int.reduceEq, Nat.reduceBEq, Nat.reduceEqDiff, f.1, f.2.1, f.2.2, g.1, g.2.1, g.2.2, c0, c1]
      exact h1 (fun q => q.2 hlw) _ (by unfold frV; repeat (first | exact leEnv_nil | refine leEnv_any _ ?_ | refine leEnv_same _ ?_ | refine leEnv_norm _ ?_))
    · have c1 : (lb.v != 0) = true := by simp [hlw]
      have hlp := lt_of_get h4
      have hlp1 := lt_of_get h5
      obtain ⟨s1, hs1⟩ : ∃ s1, s ++ [Ob.cells [.sc (.int .i64 la.v), .sc (.string la.name), .slice .imm 3 (la.args.map tySV)]] = s1 := ⟨_, rfl⟩
      obtain ⟨s2, hs2⟩ : ∃ s2, s1.set p (.cells [.sc (.int .i64 lb.v), .sc (.string lb.name), .slice .imm 3 (lb.args.map tySV)]) = s2 := ⟨_, rfl⟩
      have k4 : s1[p]? = some (.cells [.sc (.int .i64 la.v), .sc (.string la.name), .slice .imm 3 (la.args.map tySV)]) := by rw [← hs1, List.getElem?_append_left hlp]; exact h4
      have k5 : s1[p + 1]? = some (.cells [.sc (.int .i64 lb.v), .sc (.string lb.name), .slice .imm 3 (lb.args.map tySV)]) := by rw [← hs1, List.getElem?_append_left hlp1]; exact h5
      have k6 : s1[s.length]? = some (.cells [.sc (.int .i64 la.v), .sc (.string la.name), .slice .imm 3 (la.args.map tySV)]) := by rw [← hs1]; simp
      have m5 : s2[p + 1]? = some (.cells [.sc (.int .i64 lb.v), .sc (.string lb.name), .slice .imm 3 (lb.args.map tySV)]) := by rw [← hs2, List.getElem?_set_ne (by omega)]; exact k5
      have m6 : s2[s.length]? = some (.cells [.sc (.int .i64 la.v), .sc (.string la.name), .slice .imm 3 (la.args.map tySV)]) := by rw [← hs2, List.getElem?_set_ne (by omega)]; exact k6
      have f1 := cells_facts k4
      have g1 := cells_facts k5
      have g2 := cells_facts m5
      have g3 := cells_facts m6
      have hdl : ∀ a b c : SV, List.drop 3 [a, b, c] = [] := fun _ _ _ => rfl
      simp only [go_sem, reduceCtorEq, Nat.reduceAdd, Nat.reduceMul, Nat.reduceLeDiff, Nat.reduceLT, Int.reduceLE, Int.reduceLT, Int.reduceEq, Nat.reduceBEq, Nat.reduceEqDiff, f.1, f.2.1, f.2.2, g.1, g.2.1, g.2.2, c0, c1, hs1, f1.1, f1.2.1, f1.2.2, g1.1, g1.2.1, g1.2.2, hs2, g2.1, g2.2.1, g2.2.2, g3.1, g3.2.1, g3.2.2, hdl, List.length_cons, List.length_nil]
      refine h2 hlv hlw _ _ (by unfold frV; repeat (first | exact leEnv_nil | refine leEnv_any _ ?_ | refine leEnv_same _ ?_ | refine leEnv_norm _ ?_)) ?_ (List.getElem?_set_self (lt_of_get m5)) ?_
      · rw [List.getElem?_set_ne (by omega), ← hs2]; exact List.getElem?_set_self (lt_of_get k4)
      · rw [← hs2, ← hs1]
        exact (((Gs.refl _ s).app _).set (.inr (by simp)) _).set (.inr (by simp)) _
  · have c0 : (la.v == 0) = false := by simp [hlv]
    simp only [go_sem, reduceCtorEq, Nat.reduceAdd, Nat.reduceMul, Nat.reduceLeDiff, Nat.reduceLT, Int.reduceLE, Int.reduceLT, Int.reduceEq, Nat.reduceBEq, Nat.reduceEqDiff, f.1, f.2.1, f.2.2, g.1, g.2.1, g.2.2, c0]
    exact h1 (fun q => hlv q.1) _ (by unfold frV; repeat (first | exact leEnv_nil | refine leEnv_any _ ?_ | refine leEnv_same _ ?_ | refine leEnv_norm _ ?_))

set_option maxHeartbeats 4000000 in
theorem b0V_c {id p : Nat} {s : St} {la : Ty} {X : SV}
    (h4 : s[p]? = some (.cells [.sc (.int .i64 la.v), .sc (.string la.name), .slice .imm 3 (la.args.map tySV)])) (hlv : la.v = 0) (Z : Exit → List SV → St → Prop)
    (h1 : ∀ env, LeEnv env (frV id X p) → Z .normal env s) : AWp Tryd.prog bV Z (frV id X p) s := by
  have hb' := bodyV_eq Tryd.func38 rfl
  have hr : bV = _ := congrArg (fun c => hdC (tlC (tlC (tlC (tlC (tlC (tlC c))))))) hb'
  simp only [tlC, hdC] at hr
  rw [hr]
  clear hr hb'
  unfold frV
  refine awp_c (M := []) ?_
  have f := cells_facts h4
  have c0 : (la.v != 0) = false := by simp [hlv]
  simp only [go_sem, reduceCtorEq, Nat.reduceAdd, Nat.reduceMul, Nat.reduceLeDiff, Nat.reduceLT, Int.reduceLE, Int.reduceLT, Int.reduceEq, Nat.reduceBEq, Nat.reduceEqDiff, f.1, f.2.1, f.2.2, c0]
  exact h1 _ (by unfold frV; repeat (first | exact leEnv_nil | refine leEnv_any _ ?_ | refine leEnv_same _ ?_ | refine leEnv_norm _ ?_))

set_option maxHeartbeats 4000000 in
theorem dV_c {id p : Nat} {s : St} {la lb : Ty} {X : SV}
    (h4 : s[p]? = some (.cells [.sc (.int .i64 la.v), .sc (.string la.name), .slice .imm 3 (la.args.map tySV)])) (h5 : s[p + 1]? = some (.cells [.sc (.int .i64 lb.v), .sc (.string lb.name), .slice .imm 3 (lb.args.map tySV)])) (Z : Exit → List SV → St → Prop)
    (h1 : ¬ (la.name = lb.name ∧ la.args.length = lb.args.length) → ∀ env, env.getD 8 .any = X → env.getD 9 .any = .sc (.int .i64 23) → Z .ret env s)
    (h2 : la.name = lb.name → la.args.length = lb.args.length → ∀ env, LeEnv env (frV id X p) → Z .normal env s) : AWp Tryd.prog dV Z (frV id X p) s := by
  have hb' := bodyV_eq Tryd.func38 rfl
  have hr : dV = _ := congrArg (fun c => hdC (tlC (tlC (tlC (tlC (tlC (tlC (tlC c)))))))) hb'
  simp only [tlC, hdC] at hr
  rw [hr]
  clear hr hb'
  unfold frV
  refine awp_c (M := []) ?_
  have f := cells_facts h4
  have g := cells_facts h5
  cases hne : (la.name.toList == lb.name.toList) with
  | true =>
    have hnm := ba_eq hne
    by_cases hll : la.args.length = lb.args.length
    · have c4 : ((la.args.length : Int) != (lb.args.length : Int)) = false := by simp [hll]
      simp only [go_sem, reduceCtorEq, Nat.reduceAdd, Nat.reduceMul, Nat.reduceLeDiff, Nat.reduceLT, Int.reduceLE, Int.reduceLT, Int.reduceEq, Nat.reduceBEq, Nat.reduceEqDiff, f.1, f.2.1, f.2.2, g.1, g.2.1, g.2.2, hne, c4]
      exact h2 hnm hll _ (by unfold frV; repeat (first | exact leEnv_nil | refine leEnv_any _ ?_ | refine leEnv_same _ ?_ | refine leEnv_norm _ ?_))
    · have c4 : ((la.args.length : Int) != (lb.args.length : Int)) = true := by simp; omega
      simp only [go_sem, reduceCtorEq, Nat.reduceAdd, Nat.reduceMul, Nat.reduceLeDiff, Nat.reduceLT, Int.reduceLE, Int.reduceLT, Int.reduceEq, Nat.reduceBEq, Nat.reduceEqDiff, f.1, f.2.1, f.2.2, g.1, g.2.1, g.2.2, hne, c4]
      exact h1 (fun q => hll q.2) _ rfl rfl
  | false =>
    simp only [go_sem, reduceCtorEq, Nat.reduceAdd, Nat.reduceMul, Nat.reduceLeDiff, Nat.reduceLT, Int.reduceLE, Int.reduceLT, Int.reduceEq, Nat.reduceBEq, Nat.reduceEqDiff, f.1, f.2.1, f.2.2, g.1, g.2.1, g.2.2, hne]
    exact h1 (fun q => by rw [q.1] at hne; simp at hne) _ rfl rfl

end Go.Proofs
