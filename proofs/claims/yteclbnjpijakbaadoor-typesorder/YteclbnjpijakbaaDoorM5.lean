/- The engine: unify. -/
import Derived.Test.YteclbnjpijakbaaDoorM4
import Derived.Test.YteclbnjpijakbaaDoorM2
import Derived.Test.YteclbnjpijakbaaDoorA8
set_option linter.unusedSimpArgs false
set_option linter.unusedVariables false
set_option maxRecDepth 8000
namespace Go.Proofs
open Go Go.AL

@[go_sem] theorem Tryd.afo75 : aFieldsOk Tryd.prog 75 = true := by kernel_rfl
@[go_sem] theorem Tryd.af75a : aField Tryd.prog 75 0 = none := by kernel_rfl
@[go_sem] theorem Tryd.af75b : aField Tryd.prog 75 1 = none := by kernel_rfl
attribute [go_sem] Tryd.und75

def hasQ (Q : List (Int × Int)) : Pr := fun x y => decide ((x, y) ∈ Q)

/-- What a state that types are made one in keeps. -/
structure UG (vs : Int) (M : List (Int × Ty)) (Q : List (Int × Int)) : Prop where
  ends : EndB (gmGet M)
  gp : Gp vs (gmGet M)
  sm : Sm (gmGet M)
  nm : NG (gmGet M)
  rg : ∀ k ∈ Q, Rg k

/-- What was there is as it was, but for two objects. -/
structure G2 (m o : Nat) (st s : St) : Prop where
  len : st.length ≤ s.length
  same : ∀ j, j < st.length → j ≠ m → j ≠ o → s[j]? = st[j]?
theorem G2.refl (m o : Nat) (st : St) : G2 m o st st := ⟨Nat.le_refl _, fun _ _ _ _ => rfl⟩
theorem G2.app {m o : Nat} {st s : St} (h : G2 m o st s) (l : St) : G2 m o st (s ++ l) :=
  ⟨by rw [List.length_append]; have := h.len; omega, fun j hj n1 n2 => by rw [List.getElem?_append_left (Nat.lt_of_lt_of_le hj h.len)]; exact h.same j hj n1 n2⟩
theorem G2.set {m o : Nat} {st s : St} (h : G2 m o st s) {j : Nat} (hj : st.length ≤ j ∨ j = m ∨ j = o) (b : Ob) : G2 m o st (s.set j b) :=
  ⟨by rw [List.length_set]; exact h.len, fun i hi n1 n2 => by rw [List.getElem?_set_ne (by omega)]; exact h.same i hi n1 n2⟩
theorem G2.trans {m o : Nat} {a b c : St} (h : G2 m o a b) (k : G2 m o b c) : G2 m o a c :=
  ⟨Nat.le_trans h.len k.len, fun j hj n1 n2 => (k.same j (Nat.lt_of_lt_of_le hj h.len) n1 n2).trans (h.same j hj n1 n2)⟩

structure UP (st : St) (id mid oid : Nat) (vs : Int) (M : List (Int × Ty)) (Q : List (Int × Int)) (xs ys : List Ty) (e : Int) (s : St) (M' : List (Int × Ty)) (Q' : List (Int × Int)) : Prop where
  uni : UniL (gmGet M) (hasQ Q) xs ys e (gmGet M') (hasQ Q')
  ug : UG vs M' Q'
  mv : gmGet M' = gmGet M ∨ unb vs (gmGet M') < unb vs (gmGet M)
  tst : TSt s id mid vs M'
  one : s[oid]? = some (.map (qEs Q' 1))
  g2 : G2 mid oid st s

theorem ba_eq {a b : ByteArray} (h : (a.toList == b.toList) = true) : a = b := by
  have h : a.toList = b.toList := by simpa using h
  have e1 : a.data.toList = b.data.toList := by rw [← ByteArray.toList_eq, ← ByteArray.toList_eq, h]
  cases a with
  | mk d => cases b with
    | mk e => simp at e1; rw [e1]

/-! Pieces of a body. -/
def tlC : Code → Code
  | .seq _ b => b
  | c => c
def hdC : Code → Code
  | .seq a _ => a
  | c => c
def blC : Code → Code
  | .block _ b => b
  | c => c
noncomputable def bodyU : Code := (((Tryd.prog.funcs[33]?).bind (·.body)).getD .skip)
theorem bodyU_eq {fn : Func} {c : Code} (hf : Tryd.prog.funcs[33]? = some fn) (hb : fn.body = some c) : bodyU = c := by
  unfold bodyU; rw [hf]; simp [hb]
noncomputable def memoU : Code := hdC (tlC bodyU)
noncomputable def headsU : Code := hdC (tlC (tlC bodyU))
noncomputable def restU : Code := tlC (tlC (tlC bodyU))
noncomputable def loopU : Code := tlC restU
noncomputable def typeU : Code := tlC (blC (hdC restU))
noncomputable def bindU : Code := tlC (blC (hdC (blC (hdC restU))))
noncomputable def pickU : Code := hdC (blC (hdC (blC (hdC restU))))
theorem bodyU_shape : bodyU = .seq (hdC bodyU) (.seq memoU (.seq headsU restU)) := by
  have hb := bodyU_eq Tryd.func33 rfl
  unfold memoU headsU restU
  rw [hb]; rfl
theorem restU_shape : restU = .seq (.block 0 (.seq (.block 4 (.seq pickU bindU)) typeU)) loopU := by
  have hb := bodyU_eq Tryd.func33 rfl
  unfold pickU bindU typeU loopU restU
  rw [hb]; rfl

/-- The pieces put together. -/
theorem rest_of {Q : Exit → List SV → St → Prop} {env : List SV} {s : St}
    (h : AWp Tryd.prog pickU (fun e env s => (e = .ret ∧ Q .ret env s) ∨ (e = .normal ∧ AWp Tryd.prog bindU (fun e env s => e = .ret ∧ Q .ret env s) env s) ∨ (e = .exit 4 ∧ AWp Tryd.prog typeU (fun e env s => e = .ret ∧ Q .ret env s) env s) ∨ (e = .exit 0 ∧ AWp Tryd.prog loopU Q env s)) env s) :
    AWp Tryd.prog restU Q env s := by
  rw [restU_shape]
  refine awp_seq (awp_block (awp_seq (awp_block (awp_seq (h.mono ?_)))))
  rintro e env s (⟨rfl, h⟩ | ⟨rfl, h⟩ | ⟨rfl, h⟩ | ⟨rfl, h⟩)
  · exact h
  · refine AWp.mono h ?_
    rintro e env s ⟨rfl, h⟩
    exact h
  · show AWp _ _ _ _ _
    refine AWp.mono h ?_
    rintro e env s ⟨rfl, h⟩
    exact h
  · exact h

/-- A bound variable. -/
theorem ug_bind {vs : Int} {M : List (Int × Ty)} {Q : List (Int × Int)} (h : UG vs M Q) {x : Int} (hx : gmGet M x = none) {c : Ty} (hc : goodB (ownP vs) c = true) (hn : nd c ≤ 1000) (hnm : nmB c = true) (ho : x ∉ vsT (AP (gmGet M) c)) : gmGet (gmPut M x c) = bindB (gmGet M) x c ∧ UG vs (gmPut M x c) Q := by
  have e : gmGet (gmPut M x c) = bindB (gmGet M) x c := gmGet_put M x c
  refine ⟨e, ?_, ?_, ?_, ?_, h.rg⟩
  · rw [e]; exact h.ends.bind h.gp.gb hx (good_gd hc) ho
  · rw [e]
    intro v b hb
    unfold bindB at hb
    split at hb
    · cases hb; exact hc
    · exact h.gp v b hb
  · rw [e]
    intro v b hb
    unfold bindB at hb
    split at hb
    · cases hb; exact hn
    · exact h.sm v b hb
  · rw [e]
    intro v b hb
    unfold bindB at hb
    split at hb
    · cases hb; exact hnm
    · exact h.nm v b hb

set_option maxHeartbeats 4000000 in
theorem bind_c {id mid oid : Nat} {vs : Int} {M : List (Int × Ty)} {Q : List (Int × Int)} (hUG : UG vs M Q) {p : Nat} {s : St} {la lb : Ty} (hlv : la.v ≠ 0) (hn : gmGet M la.v = none) (ra : 1 ≤ la.v ∧ la.v ≤ vs)
    (hgb : goodB (ownP vs) lb = true) (hnb : nd lb ≤ 1000) (hT : TSt s id mid vs M) (hO : s[oid]? = some (.map (qEs Q 1))) (hi1 : oid ≠ id) (hi2 : oid ≠ mid) (hi3 : mid ≠ id) (hp : id < p ∧ mid < p ∧ oid < p)
    (h4 : s[p]? = some (.cells [.sc (.int .i64 la.v), .sc (.string la.name), .slice .imm 3 (la.args.map tySV)])) (h5 : s[p + 1]? = some (.cells [.sc (.int .i64 lb.v), .sc (.string lb.name), .slice .imm 3 (lb.args.map tySV)]))
    (K : SV → St → Prop) (h25 : la.v ∈ vsT (AP (gmGet M) lb) → ∀ s', TSt s' id mid vs M → s'[oid]? = some (.map (qEs Q 1)) → G2 mid oid s s' → K (.sc (.int .i64 25)) s')
    (h0 : la.v ∉ vsT (AP (gmGet M) lb) → ∀ s', TSt s' id mid vs (gmPut M la.v lb) → s'[oid]? = some (.map (qEs Q 1)) → G2 mid oid s s' → K (.sc (.int .i64 0)) s') :
    AWp Tryd.prog bindU (fun e env s => e = .ret ∧ RetR Tryd.prog #[ResultVar.tmp 6].toList K .ret env s) [.any, .any, .any, .ref [.ptr id 0, .mp oid], .ptr p 0, .ptr (p + 1) 0, .any, .any, .any, .any, .any, .any, .any, .any, .any, .any, .any, .any, .any, .any, .any, .any, .any, .any, .any, .any, .any, .any, .any, .any, .any, .any, .any, .any, .any, .any, .any, .any, .any, .any, .any, .any, .any, .any, .any, .any, .any, .any, .any, .any, .any, .any, .any, .any, .any, .any, .any, .any, .any, .any, .any, .any, .any, .any, .any, .any, .any, .any, .any, .any, .any, .any, .any, .any, .any, .any, .any, .any, .any, .any, .any, .any, .any, .any, .any, .any, .any, .any, .any, .any, .any, .any, .any, .any, .any, .any, .any, .any, .any, .any, .any, .any, .any, .any, .any, .any, .any, .any, .any, .any, .any, .any, .any, .any, .any, .any, .any, .any, .any, .any, .any] s := by
  have hb := bodyU_eq Tryd.func33 rfl
  have hr : bindU = _ := congrArg (fun c => tlC (blC (hdC (blC (hdC (tlC (tlC (tlC c)))))))) hb
  simp only [tlC, hdC, blC] at hr
  rw [hr]
  clear hr hb
  refine awp_c (M := [4, 5]) ?_
  have y0 := cells_facts h4
  have y1 := cells_facts h5
  have hlp := lt_of_get h4
  have hin := fun K h1 h2 => in_c hUG.ends hUG.gp.gb hUG.sm hlv hn (hid := s.length) (by omega) (by omega) (dp (AP (gmGet M) lb)) lb (good_gd hgb) hnb (Nat.le_refl _) [] K (s ++ [Ob.map []]) (hT.app _) (by simp [gmEs]) (fun w c h => by cases h) h1 h2
  rw [tySV_eq lb] at hin
  have uA : ∀ s', Gx s.length (s ++ [Ob.map []]) s' → (∀ j o, s[j]? = some o → s'[j]? = some o) ∧ TSt s' id mid vs M ∧ G2 mid oid s s' := fun s' hgx => by
    have hh : ∀ j o, s[j]? = some o → s'[j]? = some o := fun j o hj => by
      have := lt_of_get hj
      rw [hgx.same _ (by rw [List.length_append]; omega) (by omega), List.getElem?_append_left this]; exact hj
    refine ⟨hh, ⟨hh _ _ hT.hid, hh _ _ hT.hm⟩, ⟨by have := hgx.len; rw [List.length_append] at this; omega, fun j hj n1 n2 => ?_⟩⟩
    rw [hgx.same _ (by rw [List.length_append]; omega) (by omega), List.getElem?_append_left hj]
  simp only [go_sem, reduceCtorEq, Nat.reduceAdd, Nat.reduceMul, Nat.reduceLeDiff, Nat.reduceLT, Int.reduceLE, Int.reduceLT, Int.reduceEq, Nat.reduceBEq, Nat.reduceEqDiff, y0.1, y0.2.1, y0.2.2, y1.1, y1.2.1, y1.2.2]
  unfold ACallsH; simp only [put_some, put_none', ev_tmp, List.set_cons_succ, List.set_cons_zero, List.getD_cons_succ, List.getD_cons_zero]
  refine hin _ (fun hno s' H' hIE => ?_) (fun hyes s' H' hgx _ => ?_)
  · obtain ⟨hh, uT, uG⟩ := uA s' hIE.gx
    have z0 := cells_facts (hh _ _ h4)
    have z1 := cells_facts (hh _ _ h5)
    have zi := cells_facts uT.hid
    have zm := mapAt_eq uT.hm
    have hpt := fun N => put_int (P := Tryd.prog) (t := 58) (n := la.v) (v := .agg [.sc (.int .i64 lb.v), .sc (.string lb.name), .slice .imm 3 (lb.args.map tySV)]) (N := N) Tryd.amap58 zm (gm_int tySV M)
    rw [← tySV_eq lb, gm_put] at hpt
    rw [tySV_eq lb] at hpt
    simp only [go_sem, reduceCtorEq, Nat.reduceAdd, Nat.reduceMul, Nat.reduceLeDiff, Nat.reduceLT, Int.reduceLE, Int.reduceLT, Int.reduceEq, Nat.reduceBEq, Nat.reduceEqDiff]
    refine awp_drawT [] [0, 0, 0, 0, 0, 0, 0, 0, 3] (fun _ => True) Tryd.mixed rfl trivial ?_
    simp only [go_sem, reduceCtorEq, Nat.reduceAdd, Nat.reduceMul, Nat.reduceLeDiff, Nat.reduceLT, Int.reduceLE, Int.reduceLT, Int.reduceEq, Nat.reduceBEq, Nat.reduceEqDiff, drawU_n, drawU_0, drawU_1, drawU_2, drawU_3, isStore_s, z0.1, z0.2.1, z0.2.2, z1.1, z1.2.1, z1.2.2, zi.1, zi.2.1, zi.2.2, hpt]
    refine ⟨_, _, ⟨rfl, rfl⟩, h0 hno _ ⟨by rw [List.getElem?_set_ne hi3]; exact uT.hid, List.getElem?_set_self (lt_of_get uT.hm)⟩ (by rw [List.getElem?_set_ne (Ne.symm hi2)]; exact hh _ _ hO) (uG.set (.inr (.inl rfl)) _)⟩
  · simp only [go_sem, reduceCtorEq, Nat.reduceAdd, Nat.reduceMul, Nat.reduceLeDiff, Nat.reduceLT, Int.reduceLE, Int.reduceLT, Int.reduceEq, Nat.reduceBEq, Nat.reduceEqDiff]
    obtain ⟨hh, uT, uG⟩ := uA s' hgx
    exact h25 hyes s' uT (hh _ _ hO) uG

def frU (X : SV) (p : Nat) : List SV := [.any, .any, .any, X, .ptr p 0, .ptr (p + 1) 0, .any, .any, .any, .any, .any, .any, .any, .any, .any, .any, .any, .any, .any, .any, .any, .any, .any, .any, .any, .any, .any, .any, .any, .any, .any, .any, .any, .any, .any, .any, .any, .any, .any, .any, .any, .any, .any, .any, .any, .any, .any, .any, .any, .any, .any, .any, .any, .any, .any, .any, .any, .any, .any, .any, .any, .any, .any, .any, .any, .any, .any, .any, .any, .any, .any, .any, .any, .any, .any, .any, .any, .any, .any, .any, .any, .any, .any, .any, .any, .any, .any, .any, .any, .any, .any, .any, .any, .any, .any, .any, .any, .any, .any, .any, .any, .any, .any, .any, .any, .any, .any, .any, .any, .any, .any, .any, .any, .any, .any, .any, .any, .any, .any, .any, .any]

set_option maxHeartbeats 4000000 in
theorem pick_c {p : Nat} {s : St} {la lb : Ty} 
    (h4 : s[p]? = some (.cells [.sc (.int .i64 la.v), .sc (.string la.name), .slice .imm 3 (la.args.map tySV)])) (h5 : s[p + 1]? = some (.cells [.sc (.int .i64 lb.v), .sc (.string lb.name), .slice .imm 3 (lb.args.map tySV)]))
    (X : SV) (Q : Exit → List SV → St → Prop)
    (h1 : la.v ≠ 0 → la.v = lb.v → ∀ env, env.length = 121 → env.getD 6 .any = .sc (.int .i64 0) → Q .ret env s)
    (h2 : la.v ≠ 0 → la.v ≠ lb.v → ∀ env, LeEnv env (frU X p) → Q .normal env s)
    (h3 : la.v = 0 → lb.v ≠ 0 → ∀ env, LeEnv env (frU X p) → Q .normal env ((s.set p (.cells [.sc (.int .i64 lb.v), .sc (.string lb.name), .slice .imm 3 (lb.args.map tySV)])).set (p + 1) (.cells [.sc (.int .i64 la.v), .sc (.string la.name), .slice .imm 3 (la.args.map tySV)])))
    (h6 : la.v = 0 → lb.v = 0 → ¬ (la.name = lb.name ∧ la.args.length = lb.args.length) → ∀ env, LeEnv env (frU X p) → Q (.exit 4) env s)
    (h7 : la.v = 0 → lb.v = 0 → la.name = lb.name → la.args.length = lb.args.length → ∀ env, LeEnv env (frU X p) → Q (.exit 0) env s) :
    AWp Tryd.prog pickU Q (frU X p) s := by
  have hb := bodyU_eq Tryd.func33 rfl
  have hr : pickU = _ := congrArg (fun c => hdC (blC (hdC (blC (hdC (tlC (tlC (tlC c)))))))) hb
  simp only [tlC, hdC, blC] at hr
  rw [hr]
  clear hr
  refine awp_c (M := [4, 5]) ?_
  unfold frU
  have y0 := cells_facts h4
  have y1 := cells_facts h5
  by_cases hlv : la.v = 0
  · have c0 : (la.v != 0) = false := by simp [hlv]
    have c3 : (la.v == 0) = true := by simp [hlv]
    by_cases hlw : lb.v = 0
    · have c1 : (lb.v != 0) = false := by simp [hlw]
      cases hne : (la.name.toList == lb.name.toList) with
      | true =>
        have hnm := ba_eq hne
        by_cases hll : la.args.length = lb.args.length
        · have c4 : ((la.args.length : Int) != (lb.args.length : Int)) = false := by simp [hll]
          simp only [go_sem, reduceCtorEq, Nat.reduceAdd, Nat.reduceMul, Nat.reduceLeDiff, Nat.reduceLT, Int.reduceLE, Int.reduceLT, Int.reduceEq, Nat.reduceBEq, Nat.reduceEqDiff, y0.1, y0.2.1, y0.2.2, y1.1, y1.2.1, y1.2.2, c0, c1, c3, hne, c4]
          exact h7 hlv hlw hnm hll _ (by unfold frU; repeat (first | exact leEnv_nil | refine leEnv_any _ ?_ | refine leEnv_same _ ?_ | refine leEnv_norm _ ?_))
        · have c4 : ((la.args.length : Int) != (lb.args.length : Int)) = true := by simp; omega
          simp only [go_sem, reduceCtorEq, Nat.reduceAdd, Nat.reduceMul, Nat.reduceLeDiff, Nat.reduceLT, Int.reduceLE, Int.reduceLT, Int.reduceEq, Nat.reduceBEq, Nat.reduceEqDiff, y0.1, y0.2.1, y0.2.2, y1.1, y1.2.1, y1.2.2, c0, c1, c3, hne, c4]
          exact h6 hlv hlw (fun q => hll q.2) _ (by unfold frU; repeat (first | exact leEnv_nil | refine leEnv_any _ ?_ | refine leEnv_same _ ?_ | refine leEnv_norm _ ?_))
      | false =>
        simp only [go_sem, reduceCtorEq, Nat.reduceAdd, Nat.reduceMul, Nat.reduceLeDiff, Nat.reduceLT, Int.reduceLE, Int.reduceLT, Int.reduceEq, Nat.reduceBEq, Nat.reduceEqDiff, y0.1, y0.2.1, y0.2.2, y1.1, y1.2.1, y1.2.2, c0, c1, c3, hne]
        exact h6 hlv hlw (fun q => by rw [q.1] at hne; simp at hne) _ (by unfold frU; repeat (first | exact leEnv_nil | refine leEnv_any _ ?_ | refine leEnv_same _ ?_ | refine leEnv_norm _ ?_))
    · have c1 : (lb.v != 0) = true := by simp [hlw]
      have y2 := cells_facts (show (s.set p (.cells [.sc (.int .i64 lb.v), .sc (.string lb.name), .slice .imm 3 (lb.args.map tySV)]))[p + 1]? = _ by rw [List.getElem?_set_ne (by omega)]; exact h5)
      have hdl : ∀ a b c : SV, List.drop 3 [a, b, c] = [] := fun _ _ _ => rfl
      simp only [go_sem, reduceCtorEq, Nat.reduceAdd, Nat.reduceMul, Nat.reduceLeDiff, Nat.reduceLT, Int.reduceLE, Int.reduceLT, Int.reduceEq, Nat.reduceBEq, Nat.reduceEqDiff, y0.1, y0.2.1, y0.2.2, y1.1, y1.2.1, y1.2.2, y2.1, y2.2.1, y2.2.2, hdl, List.length_cons, List.length_nil, c0, c1, c3]
      exact h3 hlv hlw _ (by unfold frU; repeat (first | exact leEnv_nil | refine leEnv_any _ ?_ | refine leEnv_same _ ?_ | refine leEnv_norm _ ?_))
  · have c0 : (la.v != 0) = true := by simp [hlv]
    have c3 : (la.v == 0) = false := by simp [hlv]
    by_cases hlw : la.v = lb.v
    · have c1 : (la.v == lb.v) = true := by simp [hlw]
      simp only [go_sem, reduceCtorEq, Nat.reduceAdd, Nat.reduceMul, Nat.reduceLeDiff, Nat.reduceLT, Int.reduceLE, Int.reduceLT, Int.reduceEq, Nat.reduceBEq, Nat.reduceEqDiff, y0.1, y0.2.1, y0.2.2, y1.1, y1.2.1, y1.2.2, c0, c1, c3]
      exact h1 hlv hlw _ rfl rfl
    · have c1 : (la.v == lb.v) = false := by simp [hlw]
      simp only [go_sem, reduceCtorEq, Nat.reduceAdd, Nat.reduceMul, Nat.reduceLeDiff, Nat.reduceLT, Int.reduceLE, Int.reduceLT, Int.reduceEq, Nat.reduceBEq, Nat.reduceEqDiff, y0.1, y0.2.1, y0.2.2, y1.1, y1.2.1, y1.2.2, c0, c1, c3]
      exact h2 hlv hlw _ (by unfold frU; repeat (first | exact leEnv_nil | refine leEnv_any _ ?_ | refine leEnv_same _ ?_ | refine leEnv_norm _ ?_))

end Go.Proofs
set_option linter.unusedSimpArgs false
set_option linter.unusedVariables false
set_option maxRecDepth 8000
namespace Go.Proofs
open Go Go.AL

theorem UP.nil {st s : St} {id mid oid : Nat} {vs : Int} {M : List (Int × Ty)} {Q : List (Int × Int)} (hUG : UG vs M Q) (hT : TSt s id mid vs M) (hO : s[oid]? = some (.map (qEs Q 1))) (hG : G2 mid oid st s) : UP st id mid oid vs M Q [] [] 0 s M Q :=
  ⟨.nil, hUG, .inl rfl, hT, hO, hG⟩

set_option maxHeartbeats 4000000 in
theorem loop_c {id mid oid : Nat} {vs : Int} {M : List (Int × Ty)} {Q : List (Int × Int)} (hUG : UG vs M Q) {p : Nat} {s : St} {la lb : Ty} (hll : la.args.length = lb.args.length) (hla : la.args.length ≤ 100000)
    (hT : TSt s id mid vs M) (hO : s[oid]? = some (.map (qEs Q 1))) (hp : p ≠ mid ∧ p ≠ oid ∧ p + 1 ≠ mid ∧ p + 1 ≠ oid)
    (h4 : s[p]? = some (.cells [.sc (.int .i64 la.v), .sc (.string la.name), .slice .imm 3 (la.args.map tySV)])) (h5 : s[p + 1]? = some (.cells [.sc (.int .i64 lb.v), .sc (.string lb.name), .slice .imm 3 (lb.args.map tySV)]))
    (rec : ∀ (a b : Ty) (M1 : List (Int × Ty)) (Q1 : List (Int × Int)) (K : SV → St → Prop) (s1 : St), a ∈ la.args → b ∈ lb.args → (gmGet M1 = gmGet M ∨ unb vs (gmGet M1) < unb vs (gmGet M)) → UG vs M1 Q1 → TSt s1 id mid vs M1 → s1[oid]? = some (.map (qEs Q1 1)) →
      (∀ (e : Int) s2 M' Q', UP s1 id mid oid vs M1 Q1 [a] [b] e s2 M' Q' → K (.sc (.int .i64 e)) s2) → ACalls Tryd.prog 33 [.agg [.ptr id 0, .mp oid], tySV a, tySV b] K s1)
    (K : SV → St → Prop) (h : ∀ (e : Int) s' M' Q', UP s id mid oid vs M Q la.args lb.args e s' M' Q' → K (.sc (.int .i64 e)) s') :
    AWp Tryd.prog loopU (RetR Tryd.prog #[ResultVar.tmp 6].toList K) (frU (.ref [.ptr id 0, .mp oid]) p) s := by
  have hb := bodyU_eq Tryd.func33 rfl
  have hr : loopU = _ := congrArg (fun c => tlC (tlC (tlC (tlC c)))) hb
  simp only [tlC] at hr
  rw [hr]
  clear hr hb
  unfold frU
  refine awp_c (M := [4, 5]) ?_
  have y0 := cells_facts h4
  have y1 := cells_facts h5
  simp only [go_sem, reduceCtorEq, Nat.reduceAdd, Nat.reduceMul, Nat.reduceLeDiff, Nat.reduceLT, Int.reduceLE, Int.reduceLT, Int.reduceEq, Nat.reduceBEq, Nat.reduceEqDiff, y0.1, y0.2.1, y0.2.2, y1.1, y1.2.1, y1.2.2]
  refine awp_rounds [] (fun m e s1 => ∃ (k : Nat) (M1 : List (Int × Ty)) (Q1 : List (Int × Int)), m + k = la.args.length ∧ UP s id mid oid vs M Q (la.args.take k) (lb.args.take k) 0 s1 M1 Q1 ∧
    e = [.any, .any, .any, .ref [.ptr id 0, .mp oid], .ptr p 0, .ptr (p + 1) 0, .any, .any, .any, .any, .any, .any, .any, .any, .any, .any, .any, .any, .any, .any, .any, .any, .any, .any, .any, .any, .any, .any, .any, .any, .any, .any, .any, .any, .any, .any, .any, .any, .any, .any, .any, .any, .any, .any, .any, .any, .any, .any, .any, .any, .any, .any, .any, .any, .any, .any, .any, .any, .any, .any, .any, .any, .any, .any, .any, .any, .any, .any, .any, .any, .any, .any, .any, .any, .any, .any, .any, .any, .any, .any, .any, .any, .any, .any, .any, .any, .any, .any, .any, .any, .any, .any, .any, .any, .any, .any, .any, .any, .any, .any, .any, .sc (.int .i64 la.args.length), .sc (.int .i64 k), .any, .any, .any, .any, .any, .any, .any, .any, .any, .any, .any, .any, .any, .any, .any, .any, .any, .any]) (n := la.args.length) ?_ ⟨0, M, Q, by omega, UP.nil hUG hT hO (G2.refl _ _ s), rfl⟩ ?_
  · repeat (first | exact leEnv_nil | refine leEnv_any _ ?_ | refine leEnv_same _ ?_ | refine leEnv_norm _ ?_)
  rintro m e s1 ⟨k, M1, Q1, hmk, hU, rfl⟩
  by_cases hlt : k < la.args.length
  · have hlt2 : k < lb.args.length := by omega
    have c1 : (k : Int) < (la.args.length : Int) := by omega
    have c2 : (k : Int) < (lb.args.length : Int) := by omega
    have c0 : (0 : Int) ≤ (k : Int) := by omega
    obtain ⟨a, had⟩ : ∃ a, a = la.args.getD k default := ⟨_, rfl⟩
    obtain ⟨b, hbd⟩ : ∃ b, b = lb.args.getD k default := ⟨_, rfl⟩
    have hgk : (la.args.map tySV).getD k .any = tySV a := by rw [had]; exact getD_mapT _ hlt
    have hgk2 : (lb.args.map tySV).getD k .any = tySV b := by rw [hbd]; exact getD_mapT _ hlt2
    have ham : a ∈ la.args := by rw [had]; simp [List.getD_eq_getElem?_getD, hlt]
    have hbm : b ∈ lb.args := by rw [hbd]; simp [List.getD_eq_getElem?_getD, hlt2]
    have hw : IntKind.i64.wrap ((k : Int) + 1) = ((k + 1 : Nat) : Int) := by rw [IntWalk.i64_in _ (by omega)]; rfl
    have z4 := cells_facts ((hU.g2.same _ (lt_of_get h4) hp.1 hp.2.1).trans h4)
    have z5 := cells_facts ((hU.g2.same _ (lt_of_get h5) hp.2.2.1 hp.2.2.2).trans h5)
    have hrec := fun K h => rec a b M1 Q1 K s1 ham hbm hU.mv hU.ug hU.tst hU.one h
    simp only [go_sem, reduceCtorEq, Nat.reduceAdd, Nat.reduceMul, Nat.reduceLeDiff, Nat.reduceLT, Int.reduceLE, Int.reduceLT, Int.reduceEq, Nat.reduceBEq, Nat.reduceEqDiff, c1]
    refine awp_drawN [] 11 Tryd.mixed rfl rfl ?_
    simp only [go_sem, reduceCtorEq, Nat.reduceAdd, Nat.reduceMul, Nat.reduceLeDiff, Nat.reduceLT, Int.reduceLE, Int.reduceLT, Int.reduceEq, Nat.reduceBEq, Nat.reduceEqDiff, z4.1, z4.2.1, z4.2.2, z5.1, z5.2.1, z5.2.2, c0, c1, c2, hgk, hgk2]
    have htk : la.args.take (k + 1) = la.args.take k ++ [a] := by rw [take_snocT _ hlt, ← had]
    have htk2 : lb.args.take (k + 1) = lb.args.take k ++ [b] := by rw [take_snocT _ hlt2, ← hbd]
    have hstep : ∀ (e : Int) s2 M2 Q2, UP s1 id mid oid vs M1 Q1 [a] [b] e s2 M2 Q2 → UP s id mid oid vs M Q (la.args.take (k + 1)) (lb.args.take (k + 1)) e s2 M2 Q2 := fun e s2 M2 Q2 u => by
      rw [htk, htk2]
      refine ⟨uni_app0 hU.uni rfl u.uni, u.ug, ?_, u.tst, u.one, hU.g2.trans u.g2⟩
      rcases hU.mv with q | q <;> rcases u.mv with r | r
      · exact .inl (r.trans q)
      · exact .inr (by rw [q] at r; exact r)
      · exact .inr (by rw [r]; exact q)
      · exact .inr (by omega)
    have herr : ∀ (e : Int) s2 M2 Q2, e ≠ 0 → UP s1 id mid oid vs M1 Q1 [a] [b] e s2 M2 Q2 → UP s id mid oid vs M Q la.args lb.args e s2 M2 Q2 := fun e s2 M2 Q2 he u => by
      have q := hstep e s2 M2 Q2 u
      refine ⟨?_, q.ug, q.mv, q.tst, q.one, q.g2⟩
      have := uni_err q.uni he (la.args.drop (k + 1)) (lb.args.drop (k + 1))
      rw [List.take_append_drop, List.take_append_drop] at this
      exact this
    refine hrec _ (fun e s2 M2 Q2 hU2 => ?_)
    by_cases he : e = 0
    · subst he
      simp only [go_sem, reduceCtorEq, Nat.reduceAdd, Nat.reduceMul, Nat.reduceLeDiff, Nat.reduceLT, Int.reduceLE, Int.reduceLT, Int.reduceEq, Nat.reduceBEq, Nat.reduceEqDiff, hw, bne_self_eq_false]
      refine ⟨m - 1, _, by omega, ?_, k + 1, M2, Q2, by omega, hstep _ _ _ _ hU2, rfl⟩
      repeat (first | exact leEnv_nil | refine leEnv_any _ ?_ | refine leEnv_same _ ?_ | refine leEnv_norm _ ?_)
    · have b0 : (e != 0) = true := by simp [he]
      simp only [go_sem, reduceCtorEq, Nat.reduceAdd, Nat.reduceMul, Nat.reduceLeDiff, Nat.reduceLT, Int.reduceLE, Int.reduceLT, Int.reduceEq, Nat.reduceBEq, Nat.reduceEqDiff, b0]
      exact h e s2 M2 Q2 (herr e s2 M2 Q2 he hU2)
  · obtain rfl : k = la.args.length := by omega
    simp only [go_sem, reduceCtorEq, Nat.reduceAdd, Nat.reduceMul, Nat.reduceLeDiff, Nat.reduceLT, Int.reduceLE, Int.reduceLT, Int.reduceEq, Nat.reduceBEq, Nat.reduceEqDiff, Int.lt_irrefl]
    rw [List.take_length, hll, List.take_length] at hU
    exact h 0 s1 M1 Q1 hU

end Go.Proofs
set_option linter.unusedSimpArgs false
set_option linter.unusedVariables false
set_option maxRecDepth 8000
namespace Go.Proofs
open Go Go.AL

theorem retR6 {K : SV → St → Prop} {env : List SV} {s : St} {x : Value} (h6 : env.getD 6 .any = .sc x) (h : K (.sc x) s) : RetR Tryd.prog #[ResultVar.tmp 6].toList K .ret env s := by
  simp only [RetR, aResL, aRes1, h6, Option.bind_some, Option.map_some, Option.isSome_some, Option.getD_some, oneOf, true_and]
  exact h

/-- What was there is as it was, but for two objects and two boxes. -/
structure G4 (m o p : Nat) (st s : St) : Prop where
  len : st.length ≤ s.length
  same : ∀ j, j < st.length → j ≠ m → j ≠ o → j ≠ p → j ≠ p + 1 → s[j]? = st[j]?

/-- What the walk on from two heads shows. -/
structure UR (p : Nat) (st : St) (id mid oid : Nat) (vs : Int) (M : List (Int × Ty)) (Q : List (Int × Int)) (la lb : Ty) (e : Int) (s : St) (M' : List (Int × Ty)) (Q' : List (Int × Int)) : Prop where
  uni : ∀ (P : Pr) (a b : Ty), ¬ memo P a b → addP P a b = hasQ Q → LK (gmGet M) a = la → LK (gmGet M) b = lb → UniL (gmGet M) P [a] [b] e (gmGet M') (hasQ Q')
  ug : UG vs M' Q'
  mv : gmGet M' = gmGet M ∨ unb vs (gmGet M') < unb vs (gmGet M)
  tst : TSt s id mid vs M'
  one : s[oid]? = some (.map (qEs Q' 1))
  g4 : G4 mid oid p st s

theorem rest_c {id mid oid : Nat} {vs : Int} {M : List (Int × Ty)} {Q : List (Int × Int)} (hUG : UG vs M Q) {p : Nat} {s : St} {la lb : Ty} (ga : goodB (ownP vs) la = true) (gb : goodB (ownP vs) lb = true)
    (fa : la.v ≠ 0 → gmGet M la.v = none) (fb : lb.v ≠ 0 → gmGet M lb.v = none) (na : nd la ≤ 1000) (nb : nd lb ≤ 1000) (ma : nmB la = true) (mb : nmB lb = true)
    (hT : TSt s id mid vs M) (hO : s[oid]? = some (.map (qEs Q 1))) (hi1 : oid ≠ id) (hi2 : oid ≠ mid) (hi3 : mid ≠ id) (hp : id < p ∧ mid < p ∧ oid < p)
    (h4 : s[p]? = some (.cells [.sc (.int .i64 la.v), .sc (.string la.name), .slice .imm 3 (la.args.map tySV)])) (h5 : s[p + 1]? = some (.cells [.sc (.int .i64 lb.v), .sc (.string lb.name), .slice .imm 3 (lb.args.map tySV)]))
    (rec : ∀ (a b : Ty) (M1 : List (Int × Ty)) (Q1 : List (Int × Int)) (K : SV → St → Prop) (s1 : St), la.v = 0 → lb.v = 0 → a ∈ la.args → b ∈ lb.args → (gmGet M1 = gmGet M ∨ unb vs (gmGet M1) < unb vs (gmGet M)) → UG vs M1 Q1 → TSt s1 id mid vs M1 → s1[oid]? = some (.map (qEs Q1 1)) →
      (∀ (e : Int) s2 M' Q', UP s1 id mid oid vs M1 Q1 [a] [b] e s2 M' Q' → K (.sc (.int .i64 e)) s2) → ACalls Tryd.prog 33 [.agg [.ptr id 0, .mp oid], tySV a, tySV b] K s1)
    (K : SV → St → Prop) (h : ∀ (e : Int) s' M' Q', UR p s id mid oid vs M Q la lb e s' M' Q' → K (.sc (.int .i64 e)) s') :
    AWp Tryd.prog restU (RetR Tryd.prog #[ResultVar.tmp 6].toList K) (frU (.ref [.ptr id 0, .mp oid]) p) s := by
  refine rest_of ?_
  have hlp := lt_of_get h4
  have hlp1 := lt_of_get h5
  refine pick_c h4 h5 (.ref [.ptr id 0, .mp oid]) _ (fun c1 c2 env _ he => ?_) (fun c1 c2 env hl => ?_) (fun c1 c2 env hl => ?_) (fun c1 c2 c3 env hl => ?_) (fun c1 c2 c3 c4 env hl => ?_)
  · refine .inl ⟨rfl, retR6 he (h 0 s M Q ⟨fun P a b hm hP ha hb => ?_, hUG, .inl rfl, hT, hO, ⟨Nat.le_refl _, fun _ _ _ _ _ _ => rfl⟩⟩)⟩
    rw [← hP]
    exact .same hm (by rw [ha]; exact c1) (by rw [ha, hb]; exact c2) .nil
  · refine .inr (.inl ⟨rfl, awp_weaken hl ?_⟩)
    have ra := gp_var ga c1
    refine bind_c hUG c1 (fa c1) ra gb nb hT hO hi1 hi2 hi3 hp h4 h5 K (fun hin s' t1 t2 t3 => ?_) (fun hin s' t1 t2 t3 => ?_)
    · refine h 25 s' M Q ⟨fun P a b hm hP ha hb => ?_, hUG, .inl rfl, t1, t2, ⟨t3.len, fun j hj n1 n2 _ _ => t3.same j hj n1 n2⟩⟩
      rw [← hP]
      exact .leftE hm (by rw [ha]; exact c1) (by rw [ha, hb]; exact c2) (by rw [ha, hb]; exact hin)
    · obtain ⟨u1, u2⟩ := ug_bind hUG (fa c1) gb nb mb hin
      refine h 0 s' _ Q ⟨fun P a b hm hP ha hb => ?_, u2, .inr ?_, t1, t2, ⟨t3.len, fun j hj n1 n2 _ _ => t3.same j hj n1 n2⟩⟩
      · rw [← hP, u1, ← ha, ← hb]
        exact .left hm (by rw [ha]; exact c1) (by rw [ha, hb]; exact c2) (by rw [ha, hb]; exact hin) .nil
      · rw [u1]; exact unb_bind (fa c1) ra lb
  · refine .inr (.inl ⟨rfl, awp_weaken hl ?_⟩)
    have ra := gp_var gb c2
    have k4 : ∀ X Y : Ob, ((s.set p X).set (p + 1) Y)[p]? = some X := fun X Y => by rw [List.getElem?_set_ne (by omega), List.getElem?_set_self hlp]
    have k5 : ∀ X Y : Ob, ((s.set p X).set (p + 1) Y)[p + 1]? = some Y := fun X Y => List.getElem?_set_self (by rw [List.length_set]; exact hlp1)
    have ko : ∀ X Y : Ob, ∀ j, j ≠ p → j ≠ p + 1 → ((s.set p X).set (p + 1) Y)[j]? = s[j]? := fun X Y j q1 q2 => by rw [List.getElem?_set_ne (by omega), List.getElem?_set_ne (by omega)]
    have kl : ∀ X Y : Ob, ((s.set p X).set (p + 1) Y).length = s.length := fun X Y => by simp
    refine bind_c hUG c2 (fb c2) ra ga na ⟨(ko _ _ _ (by omega) (by omega)).trans hT.hid, (ko _ _ _ (by omega) (by omega)).trans hT.hm⟩ ((ko _ _ _ (by omega) (by omega)).trans hO) hi1 hi2 hi3 hp (k4 _ _) (k5 _ _) K (fun hin s' t1 t2 t3 => ?_) (fun hin s' t1 t2 t3 => ?_)
    · refine h 25 s' M Q ⟨fun P a b hm hP ha hb => ?_, hUG, .inl rfl, t1, t2, ⟨by have := t3.len; rw [kl] at this; exact this, fun j hj n1 n2 n3 n4 => (t3.same j (by rw [kl]; exact hj) n1 n2).trans (ko _ _ _ n3 n4)⟩⟩
      rw [← hP]
      exact .rightE hm (by rw [ha]; exact c1) (by rw [hb]; exact c2) (by rw [ha, hb]; exact hin)
    · obtain ⟨u1, u2⟩ := ug_bind hUG (fb c2) ga na ma hin
      refine h 0 s' _ Q ⟨fun P a b hm hP ha hb => ?_, u2, .inr ?_, t1, t2, ⟨by have := t3.len; rw [kl] at this; exact this, fun j hj n1 n2 n3 n4 => (t3.same j (by rw [kl]; exact hj) n1 n2).trans (ko _ _ _ n3 n4)⟩⟩
      · rw [← hP, u1, ← ha, ← hb]
        exact .right hm (by rw [ha]; exact c1) (by rw [hb]; exact c2) (by rw [ha, hb]; exact hin) .nil
      · rw [u1]; exact unb_bind (fb c2) ra la
  · refine .inr (.inr (.inl ⟨rfl, awp_weaken hl ?_⟩))
    have hb := bodyU_eq Tryd.func33 rfl
    have hr : typeU = _ := congrArg (fun c => tlC (blC (hdC (tlC (tlC (tlC c)))))) hb
    simp only [tlC, blC, hdC] at hr
    rw [hr]
    clear hr hb
    unfold frU
    refine awp_c (M := []) ?_
    simp only [go_sem, reduceCtorEq, Nat.reduceAdd, Nat.reduceMul, Nat.reduceLeDiff, Nat.reduceLT, Int.reduceLE, Int.reduceLT, Int.reduceEq, Nat.reduceBEq, Nat.reduceEqDiff]
    refine h 23 s M Q ⟨fun P a b hm hP ha hb => ?_, hUG, .inl rfl, hT, hO, ⟨Nat.le_refl _, fun _ _ _ _ _ _ => rfl⟩⟩
    rw [← hP]
    exact .type hm (by rw [ha]; exact c1) (by rw [hb]; exact c2) (by rw [ha, hb]; exact c3)
  · refine .inr (.inr (.inr ⟨rfl, awp_weaken hl ?_⟩))
    refine loop_c hUG c4 (by have := nd_eq la; have := len_nd la.args; omega) hT hO (by omega) h4 h5 (fun a b M1 Q1 K s1 => rec a b M1 Q1 K s1 c1 c2) K (fun e s' M' Q' u => ?_)
    refine h e s' M' Q' ⟨fun P a b hm hP ha hb => ?_, u.ug, u.mv, u.tst, u.one, ⟨u.g2.len, fun j hj n1 n2 _ _ => u.g2.same j hj n1 n2⟩⟩
    have hu := u.uni
    rw [← hP, ← ha, ← hb] at hu
    by_cases he : e = 0
    · subst he
      exact .con hm (by rw [ha]; exact c1) (by rw [hb]; exact c2) (by rw [ha, hb]; exact c3) (by rw [ha, hb]; exact c4) hu .nil
    · exact .conE hm (by rw [ha]; exact c1) (by rw [hb]; exact c2) (by rw [ha, hb]; exact c3) (by rw [ha, hb]; exact c4) hu he

end Go.Proofs
