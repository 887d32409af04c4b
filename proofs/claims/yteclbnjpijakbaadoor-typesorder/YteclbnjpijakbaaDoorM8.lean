/- The engine: Unify. -/
import Derived.Test.YteclbnjpijakbaaDoorM6
import Derived.Test.YteclbnjpijakbaaDoorM7
set_option linter.unusedSimpArgs false
set_option linter.unusedVariables false
set_option maxRecDepth 8000
namespace Go.Proofs
open Go Go.AL

/-- What was there is as it was, but for some objects. -/
structure Gs (l : List Nat) (st s : St) : Prop where
  len : st.length ≤ s.length
  same : ∀ j, j < st.length → j ∉ l → s[j]? = st[j]?
theorem Gs.refl (l : List Nat) (st : St) : Gs l st st := ⟨Nat.le_refl _, fun _ _ _ => rfl⟩
theorem Gs.app {l : List Nat} {st s : St} (h : Gs l st s) (x : St) : Gs l st (s ++ x) :=
  ⟨by rw [List.length_append]; have := h.len; omega, fun j hj n => by rw [List.getElem?_append_left (Nat.lt_of_lt_of_le hj h.len)]; exact h.same j hj n⟩
theorem Gs.set {l : List Nat} {st s : St} (h : Gs l st s) {j : Nat} (hj : st.length ≤ j ∨ j ∈ l) (b : Ob) : Gs l st (s.set j b) :=
  ⟨by rw [List.length_set]; exact h.len, fun i hi n => by rw [List.getElem?_set_ne (by rintro rfl; rcases hj with q | q; omega; exact n q)]; exact h.same i hi n⟩
theorem Gs.trans {l : List Nat} {a b c : St} (h : Gs l a b) (k : Gs l b c) : Gs l a c :=
  ⟨Nat.le_trans h.len k.len, fun j hj n => (k.same j (Nat.lt_of_lt_of_le hj h.len) n).trans (h.same j hj n)⟩
theorem Gs.mono {l l' : List Nat} {a b : St} (h : Gs l a b) (hl : ∀ j ∈ l, a.length ≤ j ∨ j ∈ l') : Gs l' a b :=
  ⟨h.len, fun j hj n => h.same j hj fun q => by rcases hl j q with r | r; omega; exact n r⟩

/-- A good engine state. -/
structure GM (vs : Int) (M : List (Int × Ty)) : Prop where
  bg : BG vs (gmGet M)
  sm : Sm (gmGet M)
  nm : NG (gmGet M)

theorem noP_q : hasQ [] = noP := by
  funext x y
  unfold hasQ noP
  simp

noncomputable def bodyN : Code := (((Tryd.prog.funcs[13]?).bind (·.body)).getD .skip)
theorem bodyN_eq {fn : Func} {c : Code} (hf : Tryd.prog.funcs[13]? = some fn) (hb : fn.body = some c) : bodyN = c := by
  unfold bodyN; rw [hf]; simp [hb]
noncomputable def chkN : Code := hdC (tlC bodyN)
noncomputable def restN : Code := tlC (tlC bodyN)
theorem bodyN_shape : bodyN = .seq (hdC bodyN) (.seq chkN restN) := by
  have hb := bodyN_eq Tryd.func13 rfl
  unfold chkN restN
  rw [hb]; rfl
def frN (id p : Nat) : List SV := [.ptr id 0, .any, .any, .any, .ptr p 0, .ptr (p + 1) 0, .any, .any, .any, .any, .any, .any, .any, .any, .any, .any, .any, .any, .any, .any, .any, .any, .any, .any, .any, .any, .any, .any, .any, .any, .any, .any, .any, .any, .any, .any, .any, .any, .any, .any, .any, .any, .any, .any, .any, .any, .any, .any, .any, .any, .any, .any, .any, .any, .any, .any, .any]

set_option maxHeartbeats 4000000 in
theorem chkN_c {id mid : Nat} {vs : Int} {M : List (Int × Ty)} (hM : GM vs M) (a b : Ty) {s1 : St} {p : Nat} (hT1 : TSt s1 id mid vs M)
    (e0 : s1[p]? = some (.cells [.sc (.int .i64 a.v), .sc (.string a.name), .slice .imm 3 (a.args.map tySV)])) (e1 : s1[p + 1]? = some (.cells [.sc (.int .i64 b.v), .sc (.string b.name), .slice .imm 3 (b.args.map tySV)]))
    (Z : Exit → List SV → St → Prop)
    (h1 : (okT vs (gmGet M) a && okT vs (gmGet M) b) = false → ∀ env, env.getD 6 .any = .sc (.int .i64 1) → Z .ret env s1)
    (h2 : (okT vs (gmGet M) a && okT vs (gmGet M) b) = true → ∀ env, LeEnv env (frN id p) → Z .normal env s1) :
    AWp Tryd.prog chkN Z (frN id p) s1 := by
  have hb' := bodyN_eq Tryd.func13 rfl
  have hr : chkN = _ := congrArg (fun c => hdC (tlC c)) hb'
  simp only [tlC, hdC] at hr
  rw [hr]
  clear hr hb'
  unfold frN
  refine awp_c (M := []) ?_
  have hca := cells_ty a
  have hcb := cells_ty b
  have f := cells_facts hT1.hid
  have y0 := cells_facts e0
  have y1 := cells_facts e1
  have hE := hM.bg.ends
  have hG := hM.bg.gp.gb
  have hma := fun K h => May_c id vs (.mp mid) a K s1 (of_eq_true f.2.1) f.2.2 h
  have hmb := fun K h => May_c id vs (.mp mid) b K s1 (of_eq_true f.2.1) f.2.2 h
  have hfa := fun hg K h => @may_c s1 id mid vs M hT1 hE hG a hg K h
  have hfb := fun hg K h => @may_c s1 id mid vs M hT1 hE hG b hg K h
  rw [tySV_eq a] at hma hfa
  rw [tySV_eq b] at hmb hfb
  cases va : mayB (fun n => decide (1 ≤ n) && decide (n ≤ vs)) a with
  | false =>
    rw [va] at hma
    simp only [go_sem, reduceCtorEq, Nat.reduceAdd, Nat.reduceMul, Nat.reduceLeDiff, Nat.reduceLT, Int.reduceLE, Int.reduceLT, Int.reduceEq, Nat.reduceBEq, Nat.reduceEqDiff, y0.1, y0.2.1, y0.2.2, y1.1, y1.2.1, y1.2.2]
    refine hma _ ?_
    simp only [go_sem, reduceCtorEq, Nat.reduceAdd, Nat.reduceMul, Nat.reduceLeDiff, Nat.reduceLT, Int.reduceLE, Int.reduceLT, Int.reduceEq, Nat.reduceBEq, Nat.reduceEqDiff, y0.1, y0.2.1, y0.2.2, y1.1, y1.2.1, y1.2.2]
    exact h1 (by unfold okT ownP; rw [va]; rfl) _ rfl
  | true =>
  have hga := good_gd (may_good va)
  rw [va] at hma
  have hfa := hfa hga
  cases vb : mayB (fun n => decide (1 ≤ n) && decide (n ≤ vs)) b with
  | false =>
    rw [vb] at hmb
    simp only [go_sem, reduceCtorEq, Nat.reduceAdd, Nat.reduceMul, Nat.reduceLeDiff, Nat.reduceLT, Int.reduceLE, Int.reduceLT, Int.reduceEq, Nat.reduceBEq, Nat.reduceEqDiff, y0.1, y0.2.1, y0.2.2, y1.1, y1.2.1, y1.2.2]
    refine hma _ ?_
    simp only [go_sem, reduceCtorEq, Nat.reduceAdd, Nat.reduceMul, Nat.reduceLeDiff, Nat.reduceLT, Int.reduceLE, Int.reduceLT, Int.reduceEq, Nat.reduceBEq, Nat.reduceEqDiff, y0.1, y0.2.1, y0.2.2, y1.1, y1.2.1, y1.2.2]
    refine hmb _ ?_
    simp only [go_sem, reduceCtorEq, Nat.reduceAdd, Nat.reduceMul, Nat.reduceLeDiff, Nat.reduceLT, Int.reduceLE, Int.reduceLT, Int.reduceEq, Nat.reduceBEq, Nat.reduceEqDiff, y0.1, y0.2.1, y0.2.2, y1.1, y1.2.1, y1.2.2]
    exact h1 (by unfold okT ownP; rw [va, vb]; simp) _ rfl
  | true =>
  have hgb := good_gd (may_good vb)
  rw [vb] at hmb
  have hfb := hfb hgb
  cases wa : fitB (AP (gmGet M) a) with
  | false =>
    rw [wa] at hfa
    simp only [go_sem, reduceCtorEq, Nat.reduceAdd, Nat.reduceMul, Nat.reduceLeDiff, Nat.reduceLT, Int.reduceLE, Int.reduceLT, Int.reduceEq, Nat.reduceBEq, Nat.reduceEqDiff, y0.1, y0.2.1, y0.2.2, y1.1, y1.2.1, y1.2.2]
    refine hma _ ?_
    simp only [go_sem, reduceCtorEq, Nat.reduceAdd, Nat.reduceMul, Nat.reduceLeDiff, Nat.reduceLT, Int.reduceLE, Int.reduceLT, Int.reduceEq, Nat.reduceBEq, Nat.reduceEqDiff, y0.1, y0.2.1, y0.2.2, y1.1, y1.2.1, y1.2.2]
    refine hmb _ ?_
    simp only [go_sem, reduceCtorEq, Nat.reduceAdd, Nat.reduceMul, Nat.reduceLeDiff, Nat.reduceLT, Int.reduceLE, Int.reduceLT, Int.reduceEq, Nat.reduceBEq, Nat.reduceEqDiff, y0.1, y0.2.1, y0.2.2, y1.1, y1.2.1, y1.2.2]
    refine hfa _ ?_
    simp only [go_sem, reduceCtorEq, Nat.reduceAdd, Nat.reduceMul, Nat.reduceLeDiff, Nat.reduceLT, Int.reduceLE, Int.reduceLT, Int.reduceEq, Nat.reduceBEq, Nat.reduceEqDiff, y0.1, y0.2.1, y0.2.2, y1.1, y1.2.1, y1.2.2]
    exact h1 (by unfold okT ownP; rw [va, vb, wa]; simp) _ rfl
  | true =>
  rw [wa] at hfa
  cases wb : fitB (AP (gmGet M) b) with
  | false =>
    rw [wb] at hfb
    simp only [go_sem, reduceCtorEq, Nat.reduceAdd, Nat.reduceMul, Nat.reduceLeDiff, Nat.reduceLT, Int.reduceLE, Int.reduceLT, Int.reduceEq, Nat.reduceBEq, Nat.reduceEqDiff, y0.1, y0.2.1, y0.2.2, y1.1, y1.2.1, y1.2.2]
    refine hma _ ?_
    simp only [go_sem, reduceCtorEq, Nat.reduceAdd, Nat.reduceMul, Nat.reduceLeDiff, Nat.reduceLT, Int.reduceLE, Int.reduceLT, Int.reduceEq, Nat.reduceBEq, Nat.reduceEqDiff, y0.1, y0.2.1, y0.2.2, y1.1, y1.2.1, y1.2.2]
    refine hmb _ ?_
    simp only [go_sem, reduceCtorEq, Nat.reduceAdd, Nat.reduceMul, Nat.reduceLeDiff, Nat.reduceLT, Int.reduceLE, Int.reduceLT, Int.reduceEq, Nat.reduceBEq, Nat.reduceEqDiff, y0.1, y0.2.1, y0.2.2, y1.1, y1.2.1, y1.2.2]
    refine hfa _ ?_
    simp only [go_sem, reduceCtorEq, Nat.reduceAdd, Nat.reduceMul, Nat.reduceLeDiff, Nat.reduceLT, Int.reduceLE, Int.reduceLT, Int.reduceEq, Nat.reduceBEq, Nat.reduceEqDiff, y0.1, y0.2.1, y0.2.2, y1.1, y1.2.1, y1.2.2]
    refine hfb _ ?_
    simp only [go_sem, reduceCtorEq, Nat.reduceAdd, Nat.reduceMul, Nat.reduceLeDiff, Nat.reduceLT, Int.reduceLE, Int.reduceLT, Int.reduceEq, Nat.reduceBEq, Nat.reduceEqDiff, y0.1, y0.2.1, y0.2.2, y1.1, y1.2.1, y1.2.2]
    exact h1 (by unfold okT ownP; rw [va, vb, wa, wb]; simp) _ rfl
  | true =>
    rw [wb] at hfb
    simp only [go_sem, reduceCtorEq, Nat.reduceAdd, Nat.reduceMul, Nat.reduceLeDiff, Nat.reduceLT, Int.reduceLE, Int.reduceLT, Int.reduceEq, Nat.reduceBEq, Nat.reduceEqDiff, y0.1, y0.2.1, y0.2.2, y1.1, y1.2.1, y1.2.2]
    refine hma _ ?_
    simp only [go_sem, reduceCtorEq, Nat.reduceAdd, Nat.reduceMul, Nat.reduceLeDiff, Nat.reduceLT, Int.reduceLE, Int.reduceLT, Int.reduceEq, Nat.reduceBEq, Nat.reduceEqDiff, y0.1, y0.2.1, y0.2.2, y1.1, y1.2.1, y1.2.2]
    refine hmb _ ?_
    simp only [go_sem, reduceCtorEq, Nat.reduceAdd, Nat.reduceMul, Nat.reduceLeDiff, Nat.reduceLT, Int.reduceLE, Int.reduceLT, Int.reduceEq, Nat.reduceBEq, Nat.reduceEqDiff, y0.1, y0.2.1, y0.2.2, y1.1, y1.2.1, y1.2.2]
    refine hfa _ ?_
    simp only [go_sem, reduceCtorEq, Nat.reduceAdd, Nat.reduceMul, Nat.reduceLeDiff, Nat.reduceLT, Int.reduceLE, Int.reduceLT, Int.reduceEq, Nat.reduceBEq, Nat.reduceEqDiff, y0.1, y0.2.1, y0.2.2, y1.1, y1.2.1, y1.2.2]
    refine hfb _ ?_
    simp only [go_sem, reduceCtorEq, Nat.reduceAdd, Nat.reduceMul, Nat.reduceLeDiff, Nat.reduceLT, Int.reduceLE, Int.reduceLT, Int.reduceEq, Nat.reduceBEq, Nat.reduceEqDiff, y0.1, y0.2.1, y0.2.2, y1.1, y1.2.1, y1.2.2]
    exact h2 (by unfold okT ownP; rw [va, vb, wa, wb]; rfl) _ (by unfold frN; repeat (first | exact leEnv_nil | refine leEnv_any _ ?_ | refine leEnv_same _ ?_ | refine leEnv_norm _ ?_))

end Go.Proofs
set_option linter.unusedSimpArgs false
set_option linter.unusedVariables false
set_option maxRecDepth 8000
namespace Go.Proofs
open Go Go.AL

noncomputable def tailN : Code := tlC (tlC restN)
noncomputable def r0N : Code := hdC restN
noncomputable def r1N : Code := hdC (tlC restN)
theorem restN_shape : restN = .seq r0N (.seq r1N tailN) := by
  have hb := bodyN_eq Tryd.func13 rfl
  unfold r0N r1N tailN restN
  rw [hb]; rfl
def frN2 (id p : Nat) (c : Nat) (e : Int) : List SV := [.ptr id 0, .any, .any, .any, .ptr p 0, .any, .any, .mp c, .sc (.int .i64 e), .any, .any, .any, .any, .any, .any, .any, .any, .any, .any, .any, .any, .any, .any, .any, .any, .any, .any, .any, .any, .any, .any, .any, .any, .any, .any, .any, .any, .any, .any, .any, .any, .any, .any, .any, .any, .any, .any, .any, .any, .any, .any, .any, .any, .any, .any, .any, .any]

set_option maxHeartbeats 4000000 in
theorem tailN_c {id mid : Nat} {vs : Int} {M' : List (Int × Ty)} (hM : GM vs M') {a : Ty} {s4 : St} {p c : Nat} (hT4 : TSt s4 id mid vs M') (hga : gd a = true)
    (e0 : s4[p]? = some (.cells [.sc (.int .i64 a.v), .sc (.string a.name), .slice .imm 3 (a.args.map tySV)])) (e : Int) (K : SV → St → Prop)
    (h0 : e = 0 → fitB (AP (gmGet M') a) = true → K (.sc (.int .i64 0)) s4)
    (h1 : e = 0 → fitB (AP (gmGet M') a) = false → K (.sc (.int .i64 1)) (s4.set id (.cells [.sc (.int .i64 vs), .mp c])))
    (h2 : e ≠ 0 → K (.sc (.int .i64 e)) (s4.set id (.cells [.sc (.int .i64 vs), .mp c]))) :
    AWp Tryd.prog tailN (RetR Tryd.prog #[ResultVar.tmp 6].toList K) (frN2 id p c e) s4 := by
  have hb' := bodyN_eq Tryd.func13 rfl
  have hr : tailN = _ := congrArg (fun c => tlC (tlC (tlC (tlC c)))) hb'
  simp only [tlC] at hr
  rw [hr]
  clear hr hb'
  unfold frN2
  refine awp_c (M := []) ?_
  have q0 := cells_facts e0
  have f4 := cells_facts hT4.hid
  have hmay := @may_c s4 id mid vs M' hT4 hM.bg.ends hM.bg.gp.gb a hga
  rw [tySV_eq a] at hmay
  by_cases he : e = 0
  · subst he
    cases hf : fitB (AP (gmGet M') a) with
    | true =>
      rw [hf] at hmay
      simp only [go_sem, reduceCtorEq, Nat.reduceAdd, Nat.reduceMul, Nat.reduceLeDiff, Nat.reduceLT, Int.reduceLE, Int.reduceLT, Int.reduceEq, Nat.reduceBEq, Nat.reduceEqDiff, q0.1, q0.2.1, q0.2.2, beq_self_eq_true]
      refine hmay _ ?_
      simp only [go_sem, reduceCtorEq, Nat.reduceAdd, Nat.reduceMul, Nat.reduceLeDiff, Nat.reduceLT, Int.reduceLE, Int.reduceLT, Int.reduceEq, Nat.reduceBEq, Nat.reduceEqDiff, bne_self_eq_false]
      exact h0 rfl hf
    | false =>
      rw [hf] at hmay
      have c1 : ((1 : Int) != 0) = true := rfl
      simp only [go_sem, reduceCtorEq, Nat.reduceAdd, Nat.reduceMul, Nat.reduceLeDiff, Nat.reduceLT, Int.reduceLE, Int.reduceLT, Int.reduceEq, Nat.reduceBEq, Nat.reduceEqDiff, q0.1, q0.2.1, q0.2.2, beq_self_eq_true]
      refine hmay _ ?_
      simp only [go_sem, reduceCtorEq, Nat.reduceAdd, Nat.reduceMul, Nat.reduceLeDiff, Nat.reduceLT, Int.reduceLE, Int.reduceLT, Int.reduceEq, Nat.reduceBEq, Nat.reduceEqDiff, c1, beq_self_eq_true, f4.1, f4.2.1, f4.2.2]
      exact h1 rfl hf
  · have c0 : (e == 0) = false := by simp [he]
    have c1 : (e != 0) = true := by simp [he]
    simp only [go_sem, reduceCtorEq, Nat.reduceAdd, Nat.reduceMul, Nat.reduceLeDiff, Nat.reduceLT, Int.reduceLE, Int.reduceLT, Int.reduceEq, Nat.reduceBEq, Nat.reduceEqDiff, c0, c1, f4.1, f4.2.1, f4.2.2]
    exact h2 he

set_option maxHeartbeats 4000000 in
theorem restN_c {id mid : Nat} {vs : Int} (hvs : 0 ≤ vs ∧ vs ≤ 1000) {M : List (Int × Ty)} (hM : GM vs M) {a b : Ty} {s1 : St} {p : Nat} (hT1 : TSt s1 id mid vs M) (hp : id < p ∧ mid < p)
    (e0 : s1[p]? = some (.cells [.sc (.int .i64 a.v), .sc (.string a.name), .slice .imm 3 (a.args.map tySV)])) (e1 : s1[p + 1]? = some (.cells [.sc (.int .i64 b.v), .sc (.string b.name), .slice .imm 3 (b.args.map tySV)]))
    (hok : (okT vs (gmGet M) a && okT vs (gmGet M) b) = true) (hnma : nmB a = true) (hnmb : nmB b = true) (K : SV → St → Prop)
    (h : ∀ (e : Int) s' mid' M', UnR vs (gmGet M) a b e (gmGet M') → GM vs M' → TSt s' id mid' vs M' → Gs [id, mid] s1 s' → (mid' = mid ∨ s1.length ≤ mid') → K (.sc (.int .i64 e)) s') :
    AWp Tryd.prog restN (RetR Tryd.prog #[ResultVar.tmp 6].toList K) (frN id p) s1 := by
  rw [restN_shape]
  have hi3 : mid ≠ id := by
    rintro rfl
    have := hT1.hid.symm.trans hT1.hm
    cases this
  have hE := hM.bg.ends
  have hG := hM.bg.gp.gb
  have hlp := lt_of_get e0
  have hlp1 := lt_of_get e1
  have f := cells_facts hT1.hid
  rw [Bool.and_eq_true] at hok
  have oka := hok.1
  have okb := hok.2
  unfold okT at oka okb
  rw [Bool.and_eq_true] at oka okb
  have na := may_fitB oka.1
  have nb := may_fitB okb.1
  unfold fitB at na nb
  simp only [Bool.and_eq_true, decide_eq_true_eq] at na nb
  have gpa := may_good oka.1
  have gpb := may_good okb.1
  have hga := good_gd gpa
  obtain ⟨s2, hs2⟩ : ∃ s2, s1 ++ [Ob.map (gmEs tySV M)] = s2 := ⟨_, rfl⟩
  obtain ⟨s3, hs3⟩ : ∃ s3, s2 ++ [Ob.map []] = s3 := ⟨_, rfl⟩
  have hl2 : s2.length = s1.length + 1 := by rw [← hs2]; simp
  have hcl := fun K h => @clone_c mid (gmEs tySV M) K s1 (mapAt_eq hT1.hm) h
  have old3 : ∀ j o, s1[j]? = some o → s3[j]? = some o := fun j o hj => by
    have := lt_of_get hj
    rw [← hs3, List.getElem?_append_left (by omega), ← hs2, List.getElem?_append_left this]; exact hj
  have hG3 : Gs [id, mid] s1 s3 := by rw [← hs3, ← hs2]; exact ((Gs.refl _ s1).app _).app _
  have hT3 : TSt s3 id mid vs M := ⟨old3 _ _ hT1.hid, old3 _ _ hT1.hm⟩
  have hO3 : s3[s2.length]? = some (.map (qEs [] 1)) := by rw [← hs3]; simp [qEs]
  have hC3 : s3[s1.length]? = some (.map (gmEs tySV M)) := by rw [← hs3, List.getElem?_append_left (by omega), ← hs2]; simp
  have hun := fun K h => unify_c (id := id) (mid := mid) (oid := s2.length) hvs (by omega) (by omega) hi3 (unb vs (gmGet M)) _ a b M [] K s3 (Nat.le_refl _) (Nat.le_refl _) gpa gpb (by omega) (by omega) hnma hnmb ⟨hE, hM.bg.gp, hM.sm, hM.nm, fun k hk => by cases hk⟩ hT3 hO3 h
  rw [tySV_eq a, tySV_eq b] at hun
  have x0 := cells_facts (old3 _ _ e0)
  have x1 := cells_facts (old3 _ _ e1)
  have hb' := bodyN_eq Tryd.func13 rfl
  have hr0 : r0N = _ := congrArg (fun c => hdC (tlC (tlC c))) hb'
  have hr1 : r1N = _ := congrArg (fun c => hdC (tlC (tlC (tlC c)))) hb'
  simp only [tlC, hdC] at hr0 hr1
  rw [hr0, hr1]
  clear hr0 hr1 hb'
  refine awp_seq (AWp.mono (Q := fun e env s => e = .normal ∧ LeEnv env [.ptr id 0, .any, .any, .any, .ptr p 0, .ptr (p + 1) 0, .any, .mp s1.length, .any, .any, .any, .any, .any, .any, .any, .any, .any, .any, .any, .any, .any, .any, .any, .any, .any, .any, .any, .any, .any, .any, .any, .any, .any, .any, .any, .any, .any, .any, .any, .any, .any, .any, .any, .any, .any, .any, .any, .any, .any, .any, .any, .any, .any, .any, .any, .any, .any] ∧ s = s2) ?_ ?_)
  · unfold frN
    refine awp_c (M := []) ?_
    simp only [go_sem, reduceCtorEq, Nat.reduceAdd, Nat.reduceMul, Nat.reduceLeDiff, Nat.reduceLT, Int.reduceLE, Int.reduceLT, Int.reduceEq, Nat.reduceBEq, Nat.reduceEqDiff, f.1, f.2.1, f.2.2]
    refine hcl _ ?_
    simp only [go_sem, reduceCtorEq, Nat.reduceAdd, Nat.reduceMul, Nat.reduceLeDiff, Nat.reduceLT, Int.reduceLE, Int.reduceLT, Int.reduceEq, Nat.reduceBEq, Nat.reduceEqDiff, hs2]
    repeat (first | exact leEnv_nil | refine leEnv_any _ ?_ | refine leEnv_same _ ?_ | refine leEnv_norm _ ?_)
  rintro ee env s ⟨rfl, hle, rfl⟩
  show AWp _ _ _ _ _
  refine awp_weaken hle (awp_seq (AWp.mono (Q := fun ee env s4 => ee = .normal ∧ ∃ e M' Q', LeEnv env (frN2 id p s1.length e) ∧ UP s3 id mid s.length vs M [] [a] [b] e s4 M' Q') ?_ ?_))
  · refine awp_c (M := []) ?_
    simp only [go_sem, reduceCtorEq, Nat.reduceAdd, Nat.reduceMul, Nat.reduceLeDiff, Nat.reduceLT, Int.reduceLE, Int.reduceLT, Int.reduceEq, Nat.reduceBEq, Nat.reduceEqDiff, hs3, x0.1, x0.2.1, x0.2.2, x1.1, x1.2.1, x1.2.2]
    refine hun _ (fun e s4 M' Q' u => ?_)
    simp only [go_sem, reduceCtorEq, Nat.reduceAdd, Nat.reduceMul, Nat.reduceLeDiff, Nat.reduceLT, Int.reduceLE, Int.reduceLT, Int.reduceEq, Nat.reduceBEq, Nat.reduceEqDiff]
    exact ⟨e, M', Q', by unfold frN2; repeat (first | exact leEnv_nil | refine leEnv_any _ ?_ | refine leEnv_same _ ?_ | refine leEnv_norm _ ?_), u⟩
  rintro ee env s4 ⟨rfl, e, M', Q', hle2, u⟩
  show AWp _ _ _ _ _
  refine awp_weaken hle2 ?_
  have ll : s1.length < s3.length ∧ p < s3.length := ⟨lt_of_get hC3, lt_of_get (old3 _ _ e0)⟩
  have q0 := (u.g2.same _ ll.2 (by omega) (by omega)).trans (old3 _ _ e0)
  have hT4 := u.tst
  have hG4 : Gs [id, mid] s1 s4 := ⟨by have := u.g2.len; have := hG3.len; omega, fun j hj n => by
    rw [u.g2.same j (by have := hG3.len; omega) (fun q => n (by simp [q])) (by omega)]
    exact hG3.same j hj n⟩
  have hM' : GM vs M' := ⟨⟨u.ug.ends, u.ug.gp⟩, u.ug.sm, u.ug.nm⟩
  have hC4 : s4[s1.length]? = some (.map (gmEs tySV M)) := (u.g2.same _ ll.1 (by omega) (by omega)).trans hC3
  have hu := u.uni
  rw [noP_q] at hu
  have back : ∀ e', (∃ e1 B1 P1, UniL (gmGet M) noP [a] [b] e1 B1 P1 ∧ ((e1 = 0 ∧ fitB (AP B1 a) = false ∧ e' = 1) ∨ (e1 ≠ 0 ∧ e' = e1))) → K (.sc (.int .i64 e')) (s4.set id (.cells [.sc (.int .i64 vs), .mp s1.length])) := fun e' ⟨e1, B1, P1, h1, h2⟩ => by
    refine h e' _ s1.length M ⟨fun q => ?_, fun _ => ⟨e1, B1, P1, h1, ?_⟩⟩ hM ⟨List.getElem?_set_self (lt_of_get hT4.hid), by rw [List.getElem?_set_ne (by omega)]; exact hC4⟩ (hG4.set (.inr (by simp)) _) (.inr (Nat.le_refl _))
    · unfold okT at q
      rw [oka.1, oka.2, okb.1, okb.2] at q
      cases q
    · rcases h2 with ⟨p1, p2, p3⟩ | ⟨p1, p2⟩
      · exact .inr (.inl ⟨p1, p2, p3, rfl⟩)
      · exact .inr (.inr ⟨p1, p2, rfl⟩)
  exact tailN_c hM' hT4 hga q0 e K (fun z hf => by
      subst z
      exact h 0 s4 mid M' ⟨fun q => (by unfold okT at q; rw [oka.1, oka.2, okb.1, okb.2] at q; cases q), fun _ => ⟨0, _, _, hu, .inl ⟨rfl, hf, rfl, rfl⟩⟩⟩ hM' hT4 hG4 (.inl rfl))
    (fun z hf => back 1 ⟨e, _, _, hu, .inl ⟨z, hf, rfl⟩⟩) (fun z => back e ⟨e, _, _, hu, .inr ⟨z, rfl⟩⟩)

set_option maxHeartbeats 4000000 in
theorem Unify_c {id mid : Nat} {vs : Int} (hvs : 0 ≤ vs ∧ vs ≤ 1000) {M : List (Int × Ty)} (hM : GM vs M) (a b : Ty) (hnma : nmB a = true) (hnmb : nmB b = true) (K : SV → St → Prop) (st : St) (hT : TSt st id mid vs M)
    (h : ∀ (e : Int) s' mid' M', UnR vs (gmGet M) a b e (gmGet M') → GM vs M' → TSt s' id mid' vs M' → Gs [id, mid] st s' → (mid' = mid ∨ st.length ≤ mid') → K (.sc (.int .i64 e)) s') :
    ACalls Tryd.prog 13 [.ptr id 0, tySV a, tySV b] K st := by
  refine acalls_goA (c := bodyN) Tryd.func13 (by rw [bodyN_eq Tryd.func13 rfl]; rfl) Tryd.results13 Tryd.ntmps13 ?_
  rw [bodyN_shape]
  have hca := cells_ty a
  have hcb := cells_ty b
  obtain ⟨s1, hs1⟩ : ∃ s1, st ++ [Ob.cells (tySV a).cells, Ob.cells (tySV b).cells] = s1 := ⟨_, rfl⟩
  have hl1 : s1.length = st.length + 2 := by rw [← hs1]; simp
  have e0 : s1[st.length]? = some (.cells (tySV a).cells) := by rw [← hs1]; simp
  have e1 : s1[st.length + 1]? = some (.cells (tySV b).cells) := by rw [← hs1]; simp
  have hT1 : TSt s1 id mid vs M := by rw [← hs1]; exact hT.app _
  have hG1 : Gs [id, mid] st s1 := by rw [← hs1]; exact (Gs.refl _ st).app _
  rw [hca] at e0
  rw [hcb] at e1
  have hp : id < st.length ∧ mid < st.length := ⟨lt_of_get hT.hid, lt_of_get hT.hm⟩
  refine awp_seq (AWp.mono (Q := fun e env s => e = .normal ∧ LeEnv env (frN id st.length) ∧ s = s1) ?_ ?_)
  · rw [bodyN_eq Tryd.func13 rfl]
    simp only [hdC]
    refine awp_c (M := [4, 5]) ?_
    unfold frN
    simp only [go_sem, reduceCtorEq, Nat.reduceAdd, Nat.reduceMul, Nat.reduceLeDiff, Nat.reduceLT, Int.reduceLE, Int.reduceLT, Int.reduceEq, Nat.reduceBEq, Nat.reduceEqDiff, hs1]
    repeat (first | exact leEnv_nil | refine leEnv_any _ ?_ | refine leEnv_same _ ?_ | refine leEnv_norm _ ?_)
  rintro e env s ⟨rfl, hle, rfl⟩
  show AWp _ _ _ _ _
  refine awp_weaken hle (awp_seq ?_)
  refine chkN_c hM a b hT1 e0 e1 _ (fun hb env h6 => ?_) (fun hok env hl => ?_)
  · refine retR6 h6 (h 1 s mid M ⟨fun _ => ⟨rfl, rfl⟩, fun r => ?_⟩ hM hT1 hG1 (.inl rfl))
    rw [hb] at r; cases r
  · show AWp _ _ _ _ _
    refine awp_weaken hl ?_
    exact restN_c hvs hM hT1 hp e0 e1 hok hnma hnmb K fun e s' mid' M' u1 u2 u3 u4 u5 => h e s' mid' M' u1 u2 u3 (hG1.trans ⟨u4.len, fun j hj n => u4.same j hj n⟩) (u5.imp (fun q => q) fun q => by omega)

end Go.Proofs
set_option linter.unusedSimpArgs false
set_option linter.unusedVariables false
set_option maxRecDepth 8000
namespace Go.Proofs
open Go Go.AL

theorem wrapS (k : Nat) (h : k ≤ 1000000) : IntKind.i64.wrap ((k : Int) + 1) = ((k + 1 : Nat) : Int) := by
  rw [IntWalk.i64_in _ (by omega)]; rfl
theorem getD_i64 {l : List Int} {k : Nat} (h : k < l.length) : (l.map i64V).getD k .any = i64V (l.getD k 0) := by simp [List.getD_eq_getElem?_getD, h]
theorem drop_i64 {l : List Int} {k : Nat} (h : k < l.length) : l.drop k = l.getD k 0 :: l.drop (k + 1) := by
  rw [List.drop_eq_getElem_cons h]; simp [List.getD_eq_getElem?_getD, h]
theorem i64V_eq (n : Int) : i64V n = .sc (.int .i64 n) := rfl

def indexF (l : List Int) (n : Int) : Int := match l.findIdx? fun a => decide (n = a) with | some i => (i : Int) | none => -1

set_option maxHeartbeats 4000000 in
theorem index_c {st : St} (m : AL.Mode) {l : List Int} (hl : l.length ≤ 1000000) (n : Int) (K : SV → St → Prop) (h : K (i64V (indexF l n)) st) : ACalls Tryd.prog 29 [.slice m 1 (l.map i64V), .sc (.int .i64 n)] K st := by
  refine acalls_go_pure [] Tryd.func29 rfl Tryd.results29 Tryd.ntmps29 ?_
  simp only [go_sem, reduceCtorEq, Nat.reduceAdd, Nat.reduceMul, Nat.reduceLeDiff, Nat.reduceLT, Int.reduceLE, Int.reduceLT, Int.reduceEq, Nat.reduceBEq, Nat.reduceEqDiff]
  refine awp_rounds [] (fun r e s => ∃ (k : Nat), k + r = l.length ∧ indexF l n = (match (l.drop k).findIdx? fun a => decide (n = a) with | some i => ((k + i : Nat) : Int) | none => -1) ∧ e = [.slice m 1 (l.map i64V), .sc (.int .i64 n), .any, .any, .any, .any, .any, .sc (.int .i64 l.length), .sc (.int .i64 k), .any, .any, .any, .any, .any, .any, .any, .any, .any, .any] ∧ s = st) (n := l.length) ?_ ⟨0, by omega, by unfold indexF; rw [List.drop_zero]; split <;> simp, rfl, rfl⟩ ?_
  · repeat (first | exact leEnv_nil | refine leEnv_any _ ?_ | refine leEnv_same _ ?_ | refine leEnv_norm _ ?_)
  rintro r e s ⟨k, hkm, hv, rfl, rfl⟩
  by_cases hlt : k < l.length
  · have c1 : (k : Int) < (l.length : Int) := by omega
    have c2 : (0 : Int) ≤ (k : Int) := by omega
    have hw := wrapS k (by omega)
    rw [drop_i64 hlt, List.findIdx?_cons] at hv
    obtain ⟨a, ha⟩ : ∃ a, a = l.getD k 0 := ⟨_, rfl⟩
    rw [← ha] at hv
    simp only [go_sem, reduceCtorEq, Nat.reduceAdd, Nat.reduceMul, Nat.reduceLeDiff, Nat.reduceLT, Int.reduceLE, Int.reduceLT, Int.reduceEq, Nat.reduceBEq, Nat.reduceEqDiff, c1, c2, getD_i64 hlt, hw, Int.toNat_natCast, i64V_eq]
    rw [← ha]
    refine ⟨fun c => ?_, fun c => ⟨r - 1, _, by omega, ?_, k + 1, by omega, ?_, rfl⟩⟩
    · rw [if_pos (by simpa using c)] at hv
      rw [hv] at h
      exact fin_sc h
    · repeat (first | exact leEnv_nil | refine leEnv_any _ ?_ | refine leEnv_same _ ?_ | refine leEnv_norm _ ?_)
    · rw [if_neg (by simpa using c)] at hv
      rw [hv]
      cases (l.drop (k + 1)).findIdx? fun a => decide (n = a) with
      | none => rfl
      | some i => simp only [Option.map_some]; rw [show k + (i + 1) = k + 1 + i by omega]
  · obtain rfl : k = l.length := by omega
    simp only [go_sem, reduceCtorEq, Nat.reduceAdd, Nat.reduceMul, Nat.reduceLeDiff, Nat.reduceLT, Int.reduceLE, Int.reduceLT, Int.reduceEq, Nat.reduceBEq, Nat.reduceEqDiff, Int.lt_irrefl]
    rw [hv, List.drop_length] at h
    exact fin_sc h

theorem contains_c {st : St} (m : AL.Mode) {l : List Int} (hl : l.length ≤ 1000000) (n : Int) (K : SV → St → Prop) (h : K (.sc (.bool (decide (n ∈ l)))) st) : ACalls Tryd.prog 44 [.slice m 1 (l.map i64V), .sc (.int .i64 n)] K st := by
  have hi := index_c (st := st) m hl n
  have hc : decide (0 ≤ indexF l n) = decide (n ∈ l) := by
    unfold indexF
    cases hf : l.findIdx? fun a => decide (n = a) with
    | none =>
      rw [List.findIdx?_eq_none_iff] at hf
      have : n ∉ l := fun h => by have := hf n h; simp at this
      simp [this]
    | some i =>
      obtain ⟨hi1, hi2, _⟩ := List.findIdx?_eq_some_iff_getElem.1 hf
      have : n ∈ l := by
        have e : n = l[i] := by simpa using hi2
        rw [e]; exact List.getElem_mem _
      simp [this]
  refine acalls_go_pure [] Tryd.func44 rfl Tryd.results44 Tryd.ntmps44 ?_
  simp only [go_sem, reduceCtorEq, Nat.reduceAdd, Nat.reduceMul, Nat.reduceLeDiff, Nat.reduceLT, Int.reduceLE, Int.reduceLT, Int.reduceEq, Nat.reduceBEq, Nat.reduceEqDiff]
  refine hi _ ?_
  simp only [go_sem, reduceCtorEq, Nat.reduceAdd, Nat.reduceMul, Nat.reduceLeDiff, Nat.reduceLT, Int.reduceLE, Int.reduceLT, Int.reduceEq, Nat.reduceBEq, Nat.reduceEqDiff, i64V_eq]
  rw [hc]
  exact fin_sc h

theorem app54 {n : Nat} (h : n ≤ 1000000) : AppOk Tryd.prog 54 54 1 n := appOk_of Tryd.aelem54 Tryd.aelem54 Tryd.asize3 Tryd.azero3 rfl Tryd.abytes3 (by omega) h

theorem vsS_len : ∀ (t : Ty) (l : List Int), (vsS t l).length ≤ l.length + nd t := by
  suffices h : ∀ k, (∀ t : Ty, nd t ≤ k → ∀ l : List Int, (vsS t l).length ≤ l.length + nd t) from fun t l => h _ t (Nat.le_refl _) l
  intro k
  induction k with
  | zero => intro t hk; have := nd_pos t; omega
  | succ k ih =>
    intro t hk l
    rw [vsS_eq]
    have hn := nd_eq t
    split
    · have key : ∀ (r : List Ty) (l : List Int), (∀ a ∈ r, nd a ≤ k) → (vsSL r l).length ≤ l.length + ndL r := by
        intro r
        induction r with
        | nil => intro l _; simp [vsSL, ndL]
        | cons a r ihr =>
          intro l hr
          rw [vsSL, ndL]
          have h1 := ih a (hr a (by simp)) l
          have h2 := ihr (vsS a l) fun b hb => hr b (by simp [hb])
          omega
      have := key t.args l fun a ha => by have := nd_mem ha; omega
      omega
    · split
      · omega
      · simp; omega

noncomputable def body26 : Code := (((Tryd.prog.funcs[26]?).bind (·.body)).getD .skip)
theorem body26_eq {fn : Func} {c : Code} (hf : Tryd.prog.funcs[26]? = some fn) (hb : fn.body = some c) : body26 = c := by
  unfold body26; rw [hf]; simp [hb]
noncomputable def rest26 : Code := tlC body26
theorem body26_shape : body26 = .seq (hdC body26) rest26 := by
  have hb := body26_eq Tryd.func26 rfl
  unfold rest26
  rw [hb]; rfl
def fr26 (v : SV) (p : Nat) : List SV := [.any, v, .ptr p 0, .any, .any, .any, .any, .any, .any, .any, .any, .any, .any, .any, .any, .any, .any, .any, .any, .any, .any, .any, .any, .any, .any, .any, .any, .any, .any, .any, .any, .any, .any, .any]

set_option maxHeartbeats 4000000 in
theorem rest26_c {t : Ty} (hg : gd t = true) {l : List Int} {tid p : Nat} {s : St} (hl : l.length + nd t ≤ 100000)
    (ih : ∀ a ∈ t.args, ∀ (l : List Int) (K : SV → St → Prop) (s1 : St), l.length + nd a ≤ 100000 → s1[tid]? = some (.tok l.length) → (∀ s', Gs [tid] s1 s' → s'[tid]? = some (.tok (vsS a l).length) → K (.slice (.own tid (vsS a l).length) 1 ((vsS a l).map i64V)) s') → ACalls Tryd.prog 26 [tySV a, .slice (.own tid l.length) 1 (l.map i64V)] K s1)
    (hk : s[tid]? = some (.tok l.length)) (e0 : s[p]? = some (.cells [.sc (.int .i64 t.v), .sc (.string t.name), .slice .imm 3 (t.args.map tySV)])) (K : SV → St → Prop)
    (h : ∀ s', Gs [tid] s s' → s'[tid]? = some (.tok (vsS t l).length) → K (.slice (.own tid (vsS t l).length) 1 ((vsS t l).map i64V)) s') :
    AWp Tryd.prog rest26 (RetR Tryd.prog #[ResultVar.tmp 4].toList K) (fr26 (.slice (.own tid l.length) 1 (l.map i64V)) p) s := by
  have hb' := body26_eq Tryd.func26 rfl
  have hr : rest26 = _ := congrArg tlC hb'
  simp only [tlC] at hr
  rw [hr]
  clear hr hb'
  unfold fr26
  refine awp_c (M := []) ?_
  have f := cells_facts e0
  have ft := fun v' => tokAt_eq (v' := v') hk
  by_cases hv : t.v = 0
  · have c0 : (t.v != 0) = false := by simp [hv]
    have hvs : vsS t l = vsSL t.args l := by rw [vsS_eq, if_pos hv]
    rw [hvs] at h
    have hal : t.args.length ≤ 100000 := by have := nd_eq t; have := len_nd t.args; omega
    simp only [go_sem, reduceCtorEq, Nat.reduceAdd, Nat.reduceMul, Nat.reduceLeDiff, Nat.reduceLT, Int.reduceLE, Int.reduceLT, Int.reduceEq, Nat.reduceBEq, Nat.reduceEqDiff, f.1, f.2.1, f.2.2, c0]
    refine awp_rounds [] (fun m e s1 => ∃ (k : Nat) (l1 : List Int), m + k = t.args.length ∧ l1 = vsSL (t.args.take k) l ∧ Gs [tid] s s1 ∧ s1[tid]? = some (.tok l1.length) ∧
      e = [.any, .slice (.own tid l1.length) 1 (l1.map i64V), .ptr p 0, .any, .any, .any, .any, .any, .any, .any, .any, .any, .any, .any, .any, .any, .any, .any, .any, .any, .any, .any, .any, .slice .imm 3 (t.args.map tySV), .sc (.int .i64 t.args.length), .sc (.int .i64 k), .any, .any, .any, .any, .any, .any, .any, .any]) (n := t.args.length) ?_ ⟨0, l, by omega, rfl, Gs.refl _ s, hk, rfl⟩ ?_
    · repeat (first | exact leEnv_nil | refine leEnv_any _ ?_ | refine leEnv_same _ ?_ | refine leEnv_norm _ ?_)
    rintro m e s1 ⟨k, l1, hmk, hl1, hG, hk1, rfl⟩
    by_cases hlt : k < t.args.length
    · have c1 : (k : Int) < (t.args.length : Int) := by omega
      have c2 : (0 : Int) ≤ (k : Int) := by omega
      have hw := wrapS k (by omega)
      obtain ⟨a, had⟩ : ∃ a, a = t.args.getD k default := ⟨_, rfl⟩
      have hgk : (t.args.map tySV).getD k .any = tySV a := by rw [had]; exact getD_mapT _ hlt
      have ham : a ∈ t.args := by rw [had]; simp [List.getD_eq_getElem?_getD, hlt]
      have htk : t.args.take (k + 1) = t.args.take k ++ [a] := by rw [take_snocT _ hlt, ← had]
      obtain ⟨s2, hs2⟩ : ∃ s2, s1 ++ [Ob.cells (tySV a).cells] = s2 := ⟨_, rfl⟩
      have hl1len : l1.length + nd a ≤ 100000 := by
        have e1 : l1.length ≤ l.length + ndL (t.args.take k) := by
          rw [hl1]
          have : ∀ (r : List Ty) (l : List Int), (vsSL r l).length ≤ l.length + ndL r := by
            intro r
            induction r with
            | nil => intro l; simp [vsSL, ndL]
            | cons a r ihr => intro l; rw [vsSL, ndL]; have := vsS_len a l; have := ihr (vsS a l); omega
          exact this _ _
        have e2 : ndL (t.args.take k) + nd a ≤ ndL t.args := by
          have : ndL t.args = ndL (t.args.take (k + 1)) + ndL (t.args.drop (k + 1)) := by rw [← ndL_app, List.take_append_drop]
          rw [this, htk, ndL_app]
          simp only [ndL]
          omega
        have := nd_eq t
        omega
      have hk2 : s2[tid]? = some (.tok l1.length) := by rw [← hs2]; exact (List.getElem?_append_left (lt_of_get hk1)).trans hk1
      have hG2 : Gs [tid] s s2 := by rw [← hs2]; exact hG.app _
      have e2 : s2[s1.length]? = some (.cells (tySV a).cells) := by rw [← hs2]; simp
      have f2 := cells_facts e2
      have hrec := fun K h => ih a ham l1 K s2 hl1len hk2 h
      simp only [go_sem, reduceCtorEq, Nat.reduceAdd, Nat.reduceMul, Nat.reduceLeDiff, Nat.reduceLT, Int.reduceLE, Int.reduceLT, Int.reduceEq, Nat.reduceBEq, Nat.reduceEqDiff, c1, c2, hgk, hs2, f2.1, f2.2.1, f2.2.2]
      refine hrec _ (fun s' hG3 hk3 => ?_)
      simp only [go_sem, reduceCtorEq, Nat.reduceAdd, Nat.reduceMul, Nat.reduceLeDiff, Nat.reduceLT, Int.reduceLE, Int.reduceLT, Int.reduceEq, Nat.reduceBEq, Nat.reduceEqDiff, hw]
      refine ⟨m - 1, _, by omega, ?_, k + 1, vsS a l1, by omega, by rw [htk, vsSL_app, ← hl1]; rfl, hG2.trans (hG3.mono fun j hj => .inr hj), hk3, rfl⟩
      repeat (first | exact leEnv_nil | refine leEnv_any _ ?_ | refine leEnv_same _ ?_ | refine leEnv_norm _ ?_)
    · obtain rfl : k = t.args.length := by omega
      rw [List.take_length] at hl1
      rw [← hl1] at h
      simp only [go_sem, reduceCtorEq, Nat.reduceAdd, Nat.reduceMul, Nat.reduceLeDiff, Nat.reduceLT, Int.reduceLE, Int.reduceLT, Int.reduceEq, Nat.reduceBEq, Nat.reduceEqDiff, Int.lt_irrefl]
      exact h s1 hG hk1
  · have c0 : (t.v != 0) = true := by simp [hv]
    have hcon := fun K h => contains_c (st := s) (.own tid l.length) (l := l) (by omega) t.v K h
    have ha : t.args = [] := by rw [gd_var hg hv]; rfl
    by_cases hm : t.v ∈ l
    · have hvs : vsS t l = l := by rw [vsS_eq, if_neg hv, if_pos hm]
      rw [hvs] at h
      simp only [hm, decide_true] at hcon
      simp only [go_sem, reduceCtorEq, Nat.reduceAdd, Nat.reduceMul, Nat.reduceLeDiff, Nat.reduceLT, Int.reduceLE, Int.reduceLT, Int.reduceEq, Nat.reduceBEq, Nat.reduceEqDiff, f.1, f.2.1, f.2.2, c0]
      refine hcon _ ?_
      simp only [go_sem, reduceCtorEq, Nat.reduceAdd, Nat.reduceMul, Nat.reduceLeDiff, Nat.reduceLT, Int.reduceLE, Int.reduceLT, Int.reduceEq, Nat.reduceBEq, Nat.reduceEqDiff, f.1, f.2.1, f.2.2, c0, ha]
      refine awp_rounds [] (fun m e s1 => s1 = s ∧ e = [.any, .slice (.own tid l.length) 1 (l.map i64V), .any, .any, .any, .any, .any, .any, .any, .any, .any, .any, .any, .any, .any, .any, .any, .any, .any, .any, .any, .any, .any, .any, .sc (.int .i64 0), .sc (.int .i64 0), .any, .any, .any, .any, .any, .any, .any, .any]) (n := 0) ?_ ⟨rfl, rfl⟩ ?_
      · repeat (first | exact leEnv_nil | refine leEnv_any _ ?_ | refine leEnv_same _ ?_ | refine leEnv_norm _ ?_)
      rintro m e s1 ⟨rfl, rfl⟩
      simp only [go_sem, reduceCtorEq, Nat.reduceAdd, Nat.reduceMul, Nat.reduceLeDiff, Nat.reduceLT, Int.reduceLE, Int.reduceLT, Int.reduceEq, Nat.reduceBEq, Nat.reduceEqDiff, Int.lt_irrefl]
      exact h s1 (Gs.refl _ _) hk
    · have hvs : vsS t l = l ++ [t.v] := by rw [vsS_eq, if_neg hv, if_neg hm]
      rw [hvs] at h
      simp only [hm, decide_false] at hcon
      simp only [go_sem, reduceCtorEq, Nat.reduceAdd, Nat.reduceMul, Nat.reduceLeDiff, Nat.reduceLT, Int.reduceLE, Int.reduceLT, Int.reduceEq, Nat.reduceBEq, Nat.reduceEqDiff, f.1, f.2.1, f.2.2, c0]
      refine hcon _ ?_
      simp only [go_sem, reduceCtorEq, Nat.reduceAdd, Nat.reduceMul, Nat.reduceLeDiff, Nat.reduceLT, Int.reduceLE, Int.reduceLT, Int.reduceEq, Nat.reduceBEq, Nat.reduceEqDiff, f.1, f.2.1, f.2.2, c0, ft]
      have e1 : (l ++ [t.v]).length = l.length + 1 := by simp
      have e2 : (l ++ [t.v]).map i64V = l.map i64V ++ [.sc (.int .i64 t.v)] := by simp [i64V]
      rw [e1, e2] at h
      exact ⟨app54 (by omega), h _ ((Gs.refl _ s).set (.inr (by simp)) _) (List.getElem?_set_self (lt_of_get hk))⟩

theorem retR4 {K : SV → St → Prop} {env : List SV} {s : St} {x : SV} (h4 : env.getD 4 .any = x) (h : K x s) : RetR Tryd.prog #[ResultVar.tmp 4].toList K .ret env s := by
  subst h4
  exact ⟨rfl, h⟩

/-- The variables of a type, added to a growing list. -/
theorem vars_c : ∀ (n : Nat) (t : Ty), nd t ≤ n → gd t = true → ∀ (l : List Int) (tid : Nat) (K : SV → St → Prop) (st : St), l.length + nd t ≤ 100000 → st[tid]? = some (.tok l.length) →
    (∀ s', Gs [tid] st s' → s'[tid]? = some (.tok (vsS t l).length) → K (.slice (.own tid (vsS t l).length) 1 ((vsS t l).map i64V)) s') → ACalls Tryd.prog 26 [tySV t, .slice (.own tid l.length) 1 (l.map i64V)] K st := by
  intro n
  induction n with
  | zero => intro t hn; have := nd_pos t; omega
  | succ n ih =>
    intro t hn hg l tid K st hl hk h
    refine acalls_goA (c := body26) Tryd.func26 (by rw [body26_eq Tryd.func26 rfl]; rfl) Tryd.results26 Tryd.ntmps26 ?_
    rw [body26_shape]
    have hca := cells_ty t
    obtain ⟨s1, hs1⟩ : ∃ s1, st ++ [Ob.cells (tySV t).cells] = s1 := ⟨_, rfl⟩
    have e0 : s1[st.length]? = some (.cells (tySV t).cells) := by rw [← hs1]; simp
    have hk1 : s1[tid]? = some (.tok l.length) := by rw [← hs1]; exact (List.getElem?_append_left (lt_of_get hk)).trans hk
    have hG1 : Gs [tid] st s1 := by rw [← hs1]; exact (Gs.refl _ st).app _
    rw [hca] at e0
    refine awp_seq (AWp.mono (Q := fun e env s => e = .normal ∧ LeEnv env (fr26 (.slice (.own tid l.length) 1 (l.map i64V)) st.length) ∧ s = s1) ?_ ?_)
    · rw [body26_eq Tryd.func26 rfl]
      simp only [hdC]
      refine awp_c (M := [2]) ?_
      unfold fr26
      simp only [go_sem, reduceCtorEq, Nat.reduceAdd, Nat.reduceMul, Nat.reduceLeDiff, Nat.reduceLT, Int.reduceLE, Int.reduceLT, Int.reduceEq, Nat.reduceBEq, Nat.reduceEqDiff, hs1]
      repeat (first | exact leEnv_nil | refine leEnv_any _ ?_ | refine leEnv_same _ ?_ | refine leEnv_norm _ ?_)
    rintro e env s ⟨rfl, hle, rfl⟩
    show AWp _ _ _ _ _
    refine awp_weaken hle ?_
    exact rest26_c hg hl (fun a ha l K s1 h1 h2 h3 => by
      have hv : t.v = 0 := by
        by_cases hv : t.v = 0
        · exact hv
        · rw [gd_var hg hv] at ha; cases ha
      exact ih a (by have := nd_mem ha; have := nd_eq t; omega) (gd_con hg hv a ha) l tid K s1 h1 h2 h3) hk1 e0 K fun s' h1 h2 => h s' (hG1.trans (h1.mono fun j hj => .inr hj)) h2

theorem Gs.ex {st s : St} (h : Gs [] st s) : ∃ ex, s = st ++ ex :=
  Gr.ex ⟨h.len, fun j hj => h.same j hj (by simp)⟩
theorem Gs.after {l l' : List Nat} {a b c : St} (h : Gs l a b) (k : Gs l' b c) (hl : ∀ j ∈ l', a.length ≤ j ∨ j ∈ l) : Gs l a c :=
  ⟨Nat.le_trans h.len k.len, fun j hj n => (k.same j (Nat.lt_of_lt_of_le hj h.len) (fun q => by rcases hl j q with r | r; omega; exact n r)).trans (h.same j hj n)⟩
theorem ids_i64 (n : Nat) (l : List Int) : Ids n (.slice .imm 1 (l.map i64V)) := by
  refine ids_slice (.inl rfl) fun x hx y hy => ?_
  obtain ⟨k, _, rfl⟩ := List.mem_map.1 hx
  simp [SV.cells, i64V] at hy
  subst hy
  exact .sc _

/-- The variables of a type. -/
theorem vars0_c (t : Ty) (hg : gd t = true) (hn : nd t ≤ 1000) (K : SV → St → Prop) (st : St) (h : K (.slice .imm 1 ((vsS t []).map i64V)) st) : ACalls Tryd.prog 26 [tySV t, .slice .full 0 []] K st := by
  refine acalls_pure ?_
  refine acalls_goA (c := body26) Tryd.func26 (by rw [body26_eq Tryd.func26 rfl]; rfl) Tryd.results26 Tryd.ntmps26 ?_
  rw [body26_shape]
  have hca := cells_ty t
  obtain ⟨s1, hs1⟩ : ∃ s1, st ++ [Ob.cells (tySV t).cells] = s1 := ⟨_, rfl⟩
  have e0 : s1[st.length]? = some (.cells (tySV t).cells) := by rw [← hs1]; simp
  have hG1 : Gs [] st s1 := by rw [← hs1]; exact (Gs.refl _ st).app _
  have hl1 : s1.length = st.length + 1 := by rw [← hs1]; simp
  rw [hca] at e0
  refine awp_seq (AWp.mono (Q := fun e env s => e = .normal ∧ LeEnv env (fr26 (.slice .full 0 []) st.length) ∧ s = s1) ?_ ?_)
  · rw [body26_eq Tryd.func26 rfl]
    simp only [hdC]
    refine awp_c (M := [2]) ?_
    unfold fr26
    simp only [go_sem, reduceCtorEq, Nat.reduceAdd, Nat.reduceMul, Nat.reduceLeDiff, Nat.reduceLT, Int.reduceLE, Int.reduceLT, Int.reduceEq, Nat.reduceBEq, Nat.reduceEqDiff, hs1]
    repeat (first | exact leEnv_nil | refine leEnv_any _ ?_ | refine leEnv_same _ ?_ | refine leEnv_norm _ ?_)
  rintro e env s ⟨rfl, hle, rfl⟩
  show AWp _ _ _ _ _
  refine awp_weaken hle (awp_own 1 1 0 rfl ?_)
  refine rest26_c (l := []) (tid := s.length) hg (by simp; omega) (fun a ha l K s1 h1 h2 h3 => ?_) (by simp) ((List.getElem?_append_left (lt_of_get e0)).trans e0) _ fun s' h1 h2 => ?_
  · have hv : t.v = 0 := by
      by_cases hv : t.v = 0
      · exact hv
      · rw [gd_var hg hv] at ha; cases ha
    exact vars_c _ a (Nat.le_refl _) (gd_con hg hv a ha) l s.length K s1 h1 h2 h3
  · obtain ⟨ex, hex⟩ := Gs.ex ((hG1.app [.tok 0]).after h1 fun j hj => by simp at hj; subst hj; exact .inl (by omega))
    exact ⟨ex, hex, ids_i64 _ _, h⟩

end Go.Proofs
