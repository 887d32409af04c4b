/- The document: unify, put together (F38). -/
import Derived.Test.YteclbnjpijakbaaDoorW29
set_option linter.unusedSimpArgs false
set_option linter.unusedVariables false
set_option maxRecDepth 8000
namespace Go.Proofs
open Go Go.AL

set_option maxHeartbeats 4000000 in
theorem h8_c {id a b va vb : Nat} {R : List (Option Ty)} (hn : R.length ≤ 1000) (hB : BG R.length (gR R)) {x : Ty} (hg : goodB (ownP R.length) x = true) {p : Nat} {s : St} {X : SV} (hR : RSt s id a b va vb R)
    (h4 : s[p]? = some (.cells [.sc (.int .i64 x.v), .sc (.string x.name), .slice .imm 3 (x.args.map tySV)])) (Z : Exit → List SV → St → Prop)
    (h : ∀ env, LeEnv env (frV id X p) → Z .normal env (s.set p (.cells [.sc (.int .i64 (LK (gR R) x).v), .sc (.string (LK (gR R) x).name), .slice .imm 3 ((LK (gR R) x).args.map tySV)]))) : AWp Tryd.prog h8 Z (frV id X p) s := by
  have hb' := bodyV_eq Tryd.func38 rfl
  have hr : h8 = _ := congrArg (fun c => hdC (tlC (tlC c))) hb'
  simp only [tlC, hdC] at hr
  rw [hr]
  clear hr hb'
  unfold frV
  refine awp_c (M := []) ?_
  have f := cells_facts h4
  have hlk := fun K h => head_c hR hn hB hg K h
  obtain ⟨u, hu⟩ : ∃ u, LK (gR R) x = u := ⟨_, rfl⟩
  rw [hu] at hlk h
  rw [tySV_eq x] at hlk
  have hcu := cells_ty u
  have hdl : ∀ a b c : SV, List.drop 3 [a, b, c] = [] := fun _ _ _ => rfl
  simp only [go_sem, reduceCtorEq, Nat.reduceAdd, Nat.reduceMul, Nat.reduceLeDiff, Nat.reduceLT, Int.reduceLE, Int.reduceLT, Int.reduceEq, Nat.reduceBEq, Nat.reduceEqDiff, f.1, f.2.1, f.2.2]
  refine hlk _ ?_
  simp only [go_sem, reduceCtorEq, Nat.reduceAdd, Nat.reduceMul, Nat.reduceLeDiff, Nat.reduceLT, Int.reduceLE, Int.reduceLT, Int.reduceEq, Nat.reduceBEq, Nat.reduceEqDiff, f.1, f.2.1, f.2.2, hcu, hdl, List.append_nil, List.length_cons, List.length_nil]
  exact h _ (by unfold frV; repeat (first | exact leEnv_nil | refine leEnv_any _ ?_ | refine leEnv_same _ ?_ | refine leEnv_norm _ ?_))

set_option maxHeartbeats 4000000 in
theorem h9_c {id a b va vb : Nat} {R : List (Option Ty)} (hn : R.length ≤ 1000) (hB : BG R.length (gR R)) {x : Ty} (hg : goodB (ownP R.length) x = true) {p : Nat} {s : St} {X : SV} (hR : RSt s id a b va vb R)
    (h4 : s[p + 1]? = some (.cells [.sc (.int .i64 x.v), .sc (.string x.name), .slice .imm 3 (x.args.map tySV)])) (Z : Exit → List SV → St → Prop)
    (h : ∀ env, LeEnv env (frV id X p) → Z .normal env (s.set (p + 1) (.cells [.sc (.int .i64 (LK (gR R) x).v), .sc (.string (LK (gR R) x).name), .slice .imm 3 ((LK (gR R) x).args.map tySV)]))) : AWp Tryd.prog h9 Z (frV id X p) s := by
  have hb' := bodyV_eq Tryd.func38 rfl
  have hr : h9 = _ := congrArg (fun c => hdC (tlC (tlC (tlC c)))) hb'
  simp only [tlC, hdC] at hr
  rw [hr]
  clear hr hb'
  unfold frV
  refine awp_c (M := []) ?_
  have f := cells_facts h4
  have hlk := fun K h => head_c hR hn hB hg K h
  obtain ⟨u, hu⟩ : ∃ u, LK (gR R) x = u := ⟨_, rfl⟩
  rw [hu] at hlk h
  rw [tySV_eq x] at hlk
  have hcu := cells_ty u
  have hdl : ∀ a b c : SV, List.drop 3 [a, b, c] = [] := fun _ _ _ => rfl
  simp only [go_sem, reduceCtorEq, Nat.reduceAdd, Nat.reduceMul, Nat.reduceLeDiff, Nat.reduceLT, Int.reduceLE, Int.reduceLT, Int.reduceEq, Nat.reduceBEq, Nat.reduceEqDiff, f.1, f.2.1, f.2.2]
  refine hlk _ ?_
  simp only [go_sem, reduceCtorEq, Nat.reduceAdd, Nat.reduceMul, Nat.reduceLeDiff, Nat.reduceLT, Int.reduceLE, Int.reduceLT, Int.reduceEq, Nat.reduceBEq, Nat.reduceEqDiff, f.1, f.2.1, f.2.2, hcu, hdl, List.append_nil, List.length_cons, List.length_nil]
  exact h _ (by unfold frV; repeat (first | exact leEnv_nil | refine leEnv_any _ ?_ | refine leEnv_same _ ?_ | refine leEnv_norm _ ?_))

theorem RSt.gs {st s : St} {l : List Nat} (h : Gs l st s) {id a b va vb : Nat} {R : List (Option Ty)} (hR : RSt st id a b va vb R) (h1 : id ∉ l) (h2 : a ∉ l) (h3 : b ∉ l) : RSt s id a b va vb R :=
  ⟨(h.same _ (lt_of_get hR.hid) h1).trans hR.hid, (h.same _ (lt_of_get hR.ha) h2).trans hR.ha, (h.same _ (lt_of_get hR.hb) h3).trans hR.hb, hR.ne⟩

theorem coreV_c {id a b va vb tid : Nat} {R : List (Option Ty)} (hn : R.length ≤ 100) (hRG : RG R.length (gR R)) {x y : Ty} {Q : List (Int × Int)} (hx : goodB (ownP R.length) x = true) (hy : goodB (ownP R.length) y = true) (hnx : nd x ≤ 1000) (hny : nd y ≤ 1000) (hmx : nmB x = true) (hmy : nmB y = true) (hQ : QG R.length Q) {p : Nat} {s : St}
    (hR : RSt s id a b va vb R) (hk : s[tid]? = some (.tok Q.length)) (e0 : s[p]? = some (.cells [.sc (.int .i64 x.v), .sc (.string x.name), .slice .imm 3 (x.args.map tySV)])) (e1 : s[p + 1]? = some (.cells [.sc (.int .i64 y.v), .sc (.string y.name), .slice .imm 3 (y.args.map tySV)])) (hpi : p ≠ id ∧ p + 1 ≠ id)
    (rec : ∀ (x' y' : Ty) (R1 : List (Option Ty)) (Q1 : List (Int × Int)) (K : SV → St → Prop) (s1 : St), (LK (gR R) x).v = 0 → (LK (gR R) y).v = 0 → x' ∈ (LK (gR R) x).args → y' ∈ (LK (gR R) y).args → R1.length = R.length → (gR R1 = gR R ∨ unb R.length (gR R1) < unb R.length (gR R)) → RG R.length (gR R1) → QG R.length Q1 → RSt s1 id a b va vb R1 → s1[tid]? = some (.tok Q1.length) →
      (∀ (e : Int) s2 R' Q', UQ s1 id a b va vb tid R1 Q1 [x'] [y'] e s2 R' Q' → K (.tuple [prsV tid Q', .sc (.int .i64 e)]) s2) → ACalls Tryd.prog 38 [.ptr id 0, tySV x', tySV y', prsV tid Q1] K s1)
    (K : SV → St → Prop) (h : ∀ (e : Int) s' R' Q', UniL (gR R) (hasQ Q) [x] [y] e (gR R') (hasQ Q') → RG R.length (gR R') → R'.length = R.length → QG R.length Q' → (gR R' = gR R ∨ unb R.length (gR R') < unb R.length (gR R)) → RSt s' id a b va vb R' → s'[tid]? = some (.tok Q'.length) → Gs [a, b, tid, p, p + 1] s s' → K (.tuple [prsV tid Q', .sc (.int .i64 e)]) s') :
    AWp Tryd.prog (.seq mV (.seq h8 (.seq h9 (.seq sV (.seq wV (.seq bV (.seq dV lV))))))) (RetR Tryd.prog #[ResultVar.tmp 8, ResultVar.tmp 9].toList K) (frV id (prsV tid Q) p) s := by
  have hE := hRG.bg.ends
  have hG := hRG.bg.gp.gb
  have ne : ∀ (j i : Nat) (o : List SV) (w : St), w[j]? = some (.cells o) → (∀ o', w[i]? ≠ some (.cells o')) → j ≠ i := fun j i o w h1 h2 e => h2 o (e ▸ h1)
  have na : ∀ o', s[a]? ≠ some (.cells o') := fun o' q => by have := q.symm.trans hR.ha; cases this
  have nb : ∀ o', s[b]? ≠ some (.cells o') := fun o' q => by have := q.symm.trans hR.hb; cases this
  have nt : ∀ o', s[tid]? ≠ some (.cells o') := fun o' q => by have := q.symm.trans hk; cases this
  have pa := ne _ _ _ _ e0 na
  have pb := ne _ _ _ _ e0 nb
  have pt := ne _ _ _ _ e0 nt
  have pa1 := ne _ _ _ _ e1 na
  have pb1 := ne _ _ _ _ e1 nb
  have pt1 := ne _ _ _ _ e1 nt
  have it := ne _ _ _ _ hR.hid nt
  have ta : tid ≠ a := by rintro rfl; have := hk.symm.trans hR.ha; cases this
  have tb : tid ≠ b := by rintro rfl; have := hk.symm.trans hR.hb; cases this
  refine awp_seq (mV_c hn hx hy hQ hk e0 e1 _ (fun hm env q8 q9 => ?_) (fun hm env s0 Q0 hl hadd hQ0 hG0 hk0 => ?_))
  · exact retR89 q8 q9 (h 0 s R Q (.memo hm .nil) hRG rfl hQ (.inl rfl) hR hk (Gs.refl _ _))
  show AWp _ _ _ _ _
  have hR0 : RSt s0 id a b va vb R := RSt.gs hG0 hR (by simp; exact it) (by simp; exact ta.symm) (by simp; exact tb.symm)
  have f0 : s0[p]? = _ := (hG0.same _ (lt_of_get e0) (by simp; exact pt)).trans e0
  have f1 : s0[p + 1]? = _ := (hG0.same _ (lt_of_get e1) (by simp; exact pt1)).trans e1
  refine awp_weaken hl (awp_seq (h8_c (by omega) hRG.bg hx hR0 f0 _ (fun env hl => ?_)))
  show AWp _ _ _ _ _
  obtain ⟨la, hla⟩ : ∃ la, LK (gR R) x = la := ⟨_, rfl⟩
  obtain ⟨lb, hlb⟩ : ∃ lb, LK (gR R) y = lb := ⟨_, rfl⟩
  rw [hla, hlb] at rec
  rw [hla]
  obtain ⟨s1, hs1⟩ : ∃ s1, s0.set p (.cells [.sc (.int .i64 la.v), .sc (.string la.name), .slice .imm 3 (la.args.map tySV)]) = s1 := ⟨_, rfl⟩
  rw [hs1]
  have g0 : s1[p]? = some (.cells [.sc (.int .i64 la.v), .sc (.string la.name), .slice .imm 3 (la.args.map tySV)]) := by rw [← hs1]; exact List.getElem?_set_self (lt_of_get f0)
  have g1 : s1[p + 1]? = some (.cells [.sc (.int .i64 y.v), .sc (.string y.name), .slice .imm 3 (y.args.map tySV)]) := by rw [← hs1, List.getElem?_set_ne (by omega)]; exact f1
  have hR1 : RSt s1 id a b va vb R := by rw [← hs1]; exact RSt.gs (((Gs.refl [p] s0).set (.inr (by simp)) _)) hR0 (by simp; exact hpi.1.symm) (by simp; exact pa.symm) (by simp; exact pb.symm)
  refine awp_weaken hl (awp_seq (h9_c (by omega) hRG.bg hy hR1 g1 _ (fun env hl => ?_)))
  show AWp _ _ _ _ _
  rw [hlb]
  obtain ⟨s2, hs2⟩ : ∃ s2, s1.set (p + 1) (.cells [.sc (.int .i64 lb.v), .sc (.string lb.name), .slice .imm 3 (lb.args.map tySV)]) = s2 := ⟨_, rfl⟩
  rw [hs2]
  have k0 : s2[p]? = some (.cells [.sc (.int .i64 la.v), .sc (.string la.name), .slice .imm 3 (la.args.map tySV)]) := by rw [← hs2, List.getElem?_set_ne (by omega)]; exact g0
  have k1 : s2[p + 1]? = some (.cells [.sc (.int .i64 lb.v), .sc (.string lb.name), .slice .imm 3 (lb.args.map tySV)]) := by rw [← hs2]; exact List.getElem?_set_self (lt_of_get g1)
  have hR2 : RSt s2 id a b va vb R := by rw [← hs2]; exact RSt.gs (((Gs.refl [p + 1] s1).set (.inr (by simp)) _)) hR1 (by simp; exact hpi.2.symm) (by simp; exact pa1.symm) (by simp; exact pb1.symm)
  have hk2 : s2[tid]? = some (.tok Q0.length) := by rw [← hs2, List.getElem?_set_ne (by omega), ← hs1, List.getElem?_set_ne (by omega)]; exact hk0
  have hG2 : Gs [a, b, tid, p, p + 1] s s2 := by
    rw [← hs2, ← hs1]
    exact ((hG0.mono fun j hj => .inr (by simp at hj; simp [hj])).set (.inr (by simp)) _).set (.inr (by simp)) _
  have hsp := LK_spec hE hG (good_gd hx)
  have hsq := LK_spec hE hG (good_gd hy)
  have hgpa := LK_gp hE hRG.bg.gp hx
  have hgpb := LK_gp hE hRG.bg.gp hy
  have hsma := LK_sm hE hG hRG.sm (good_gd hx) hnx
  have hsmb := LK_sm hE hG hRG.sm (good_gd hy) hny
  have hnma := LK_nm hE hG hRG.nm (good_gd hx) hmx
  have hnmb := LK_nm hE hG hRG.nm (good_gd hy) hmy
  rw [hla] at hsp hgpa hsma hnma
  rw [hlb] at hsq hgpb hsmb hnmb
  refine awp_weaken hl (awp_seq (pickV_c k0 k1 _ (fun c1 c2 env q8 q9 => ?_) (fun hns env hl => ?_)))
  · refine retR89 q8 q9 (h 0 s2 R Q0 ?_ hRG rfl hQ0 (.inl rfl) hR2 hk2 hG2)
    rw [hadd]
    exact .same hm (by rw [hla]; exact c1) (by rw [hla, hlb]; exact c2) .nil
  show AWp _ _ _ _ _
  -- a variable is bound
  have bind : ∀ (u w : Ty) (s3 : St) (env : List SV), LeEnv env (frV id (prsV tid Q0) p) → u.v ≠ 0 → gR R u.v = none → goodB (ownP R.length) u = true → goodB (ownP R.length) w = true → nd w ≤ 1000 → nmB w = true → RSt s3 id a b va vb R → s3[tid]? = some (.tok Q0.length) → Gs [a, b, tid, p, p + 1] s s3 →
      s3[p]? = some (.cells [.sc (.int .i64 u.v), .sc (.string u.name), .slice .imm 3 (u.args.map tySV)]) → s3[p + 1]? = some (.cells [.sc (.int .i64 w.v), .sc (.string w.name), .slice .imm 3 (w.args.map tySV)]) →
      (u.v ∈ vsT (AP (gR R) w) → UniL (gR R) (hasQ Q) [x] [y] 25 (gR R) (hasQ Q0)) → (u.v ∉ vsT (AP (gR R) w) → UniL (gR R) (hasQ Q) [x] [y] 0 (bindB (gR R) u.v w) (hasQ Q0)) →
      AWp Tryd.prog (.seq bV (.seq dV lV)) (RetR Tryd.prog #[ResultVar.tmp 8, ResultVar.tmp 9].toList K) env s3 := by
    intro u w s3 env hl hu0 hun gu gw nw mw hR3 hk3 hG3 m4 m5 hbad hok
    have ra := gp_var gu hu0
    refine awp_weaken hl (awp_seq (bV_c hn hRG.bg hRG.sm hu0 hun ra gw nw hR3 m4 m5 _ (fun hin env q8 q9 => ?_) (fun hin env s4 k hk' hkl q8 q9 hR4 hG4 => ?_)))
    · exact retR89 q8 q9 (h 25 s3 R Q0 (hbad hin) hRG rfl hQ0 (.inl rfl) hR3 hk3 hG3)
    · have hge := gR_set hkl w
      rw [← hk'] at hge
      refine retR89 q8 q9 (h 0 s4 _ Q0 (by rw [hge]; exact hok hin) ?_ (by simp) hQ0 (.inr ?_) hR4 ?_ (hG3.trans (hG4.mono fun j hj => .inr (by simp at hj; rcases hj with q | q <;> simp [q]))))
      · rw [hge]; exact hRG.bind hun gw nw mw hin
      · rw [hge]; exact unb_bind hun ra w
      · rw [hG4.same tid (lt_of_get hk3) (by simp; exact ⟨ta, tb⟩)]; exact hk3
  refine awp_weaken hl (awp_seq (wV_c k0 k1 _ (fun hns2 env hl => ?_) (fun c1 c2 env s3 hl m4 m5 hG3 => ?_)))
  · show AWp _ _ _ _ _
    by_cases hlv : la.v = 0
    · have hlw : lb.v = 0 := by
        by_cases q : lb.v = 0
        · exact q
        · exact absurd ⟨hlv, q⟩ hns2
      refine awp_weaken hl (awp_seq (b0V_c k0 hlv _ (fun env hl => ?_)))
      show AWp _ _ _ _ _
      refine awp_weaken hl (awp_seq (dV_c k0 k1 _ (fun hne env q8 q9 => ?_) (fun hnm hll env hl => ?_)))
      · refine retR89 q8 q9 (h 23 s2 R Q0 ?_ hRG rfl hQ0 (.inl rfl) hR2 hk2 hG2)
        rw [hadd]
        exact .type hm (by rw [hla]; exact hlv) (by rw [hlb]; exact hlw) (by rw [hla, hlb]; exact hne)
      · show AWp _ _ _ _ _
        refine awp_weaken hl (lV_c hRG hQ0 hll (by have := nd_eq la; have := len_nd la.args; omega) hR2 hk2 k0 k1 (fun x' y' R1 Q1 K s1 z1 z2 => rec x' y' R1 Q1 K s1 hlv hlw z1 z2) K fun e s' R' Q' u => ?_)
        have hu := u.uni
        rw [hadd, ← hla, ← hlb] at hu
        refine h e s' R' Q' ?_ u.rg u.len u.qg u.mv u.rst u.tok (hG2.trans (u.gs.mono fun j hj => .inr (by simp at hj; rcases hj with q | q | q <;> simp [q])))
        by_cases he : e = 0
        · subst he
          exact .con hm (by rw [hla]; exact hlv) (by rw [hlb]; exact hlw) (by rw [hla, hlb]; exact hnm) (by rw [hla, hlb]; exact hll) hu .nil
        · exact .conE hm (by rw [hla]; exact hlv) (by rw [hlb]; exact hlw) (by rw [hla, hlb]; exact hnm) (by rw [hla, hlb]; exact hll) hu he
    · have hlw : la.v ≠ lb.v := fun q => hns ⟨hlv, q⟩
      refine bind la lb s2 env hl hlv (hsp.2.2 hlv) hgpa hgpb hsmb hnmb hR2 hk2 hG2 k0 k1 (fun hin => ?_) (fun hin => ?_)
      · rw [hadd]
        exact .leftE hm (by rw [hla]; exact hlv) (by rw [hla, hlb]; exact hlw) (by rw [hla, hlb]; exact hin)
      · rw [hadd]
        have := UniL.left (B := gR R) (P := hasQ Q) (a := x) (b := y) (xs := []) (ys := []) hm (by rw [hla]; exact hlv) (by rw [hla, hlb]; exact hlw) (by rw [hla, hlb]; exact hin) .nil
        rw [hla, hlb] at this
        exact this
  · show AWp _ _ _ _ _
    have hR3 : RSt s3 id a b va vb R := RSt.gs hG3 hR2 (by simp; exact ⟨hpi.1.symm, hpi.2.symm⟩) (by simp; exact ⟨pa.symm, pa1.symm⟩) (by simp; exact ⟨pb.symm, pb1.symm⟩)
    have hk3 : s3[tid]? = some (.tok Q0.length) := by rw [hG3.same tid (lt_of_get hk2) (by simp; exact ⟨pt.symm, pt1.symm⟩)]; exact hk2
    refine bind lb la s3 env hl c2 (hsq.2.2 c2) hgpb hgpa hsma hnma hR3 hk3 (hG2.trans (hG3.mono fun j hj => .inr (by simp at hj; rcases hj with q | q <;> simp [q]))) m4 m5 (fun hin => ?_) (fun hin => ?_)
    · rw [hadd]
      exact .rightE hm (by rw [hla]; exact c1) (by rw [hlb]; exact c2) (by rw [hla, hlb]; exact hin)
    · rw [hadd]
      have := UniL.right (B := gR R) (P := hasQ Q) (a := x) (b := y) (xs := []) (ys := []) hm (by rw [hla]; exact c1) (by rw [hlb]; exact c2) (by rw [hla, hlb]; exact hin) .nil
      rw [hla, hlb] at this
      exact this

end Go.Proofs
set_option linter.unusedSimpArgs false
set_option linter.unusedVariables false
set_option maxRecDepth 8000
namespace Go.Proofs
open Go Go.AL

theorem rec_step {n : Nat} {B : Bd} (hE : EndB B) (hG : Gb B) {x x' : Ty} (hg : gd x = true) (hm : x' ∈ (LK B x).args) : nd (AP B x') < nd (AP B x) := by
  have e1 := head_tree hE hG hg
  have : AP B x' ∈ (AP B x).args := by rw [e1]; exact List.mem_map_of_mem hm
  have := nd_mem this
  have := nd_eq (AP B x)
  omega

set_option maxHeartbeats 4000000 in
theorem unifyV_c {id a b va vb tid n : Nat} (hn : n ≤ 100) : ∀ (q m : Nat) (x y : Ty) (R : List (Option Ty)) (Q : List (Int × Int)) (K : SV → St → Prop) (st : St),
    R.length = n → unb n (gR R) ≤ q → nd (AP (gR R) x) ≤ m → goodB (ownP n) x = true → goodB (ownP n) y = true → nd x ≤ 1000 → nd y ≤ 1000 → nmB x = true → nmB y = true → RG n (gR R) → QG n Q → RSt st id a b va vb R → st[tid]? = some (.tok Q.length) →
    (∀ (e : Int) s R' Q', UQ st id a b va vb tid R Q [x] [y] e s R' Q' → K (.tuple [prsV tid Q', .sc (.int .i64 e)]) s) → ACalls Tryd.prog 38 [.ptr id 0, tySV x, tySV y, prsV tid Q] K st := by
  intro q
  induction q using Nat.strongRecOn with
  | _ q ihq =>
  intro m
  induction m with
  | zero => intro x y R Q K st _ _ hm; have := nd_pos (AP (gR R) x); omega
  | succ m ihm =>
    intro x y R Q K st hRn hq hm hx hy hnx hny hmx hmy hRG hQ hR hk h
    subst hRn
    refine acalls_goA (c := bodyV) Tryd.func38 (by rw [bodyV_eq Tryd.func38 rfl]; rfl) Tryd.results38 Tryd.ntmps38 ?_
    rw [bodyV_shape]
    have hca := cells_ty x
    have hcb := cells_ty y
    obtain ⟨s1, hs1⟩ : ∃ s1, st ++ [Ob.cells (tySV x).cells, Ob.cells (tySV y).cells] = s1 := ⟨_, rfl⟩
    have e0 : s1[st.length]? = some (.cells (tySV x).cells) := by rw [← hs1]; simp
    have e1 : s1[st.length + 1]? = some (.cells (tySV y).cells) := by rw [← hs1]; simp
    have hk1 : s1[tid]? = some (.tok Q.length) := by rw [← hs1]; exact (List.getElem?_append_left (lt_of_get hk)).trans hk
    have hG1 : Gs [a, b, tid] st s1 := by rw [← hs1]; exact (Gs.refl _ st).app _
    have hR1 : RSt s1 id a b va vb R := by rw [← hs1]; exact hR.app _
    rw [hca] at e0
    rw [hcb] at e1
    refine awp_seq (AWp.mono (Q := fun e env s => e = .normal ∧ LeEnv env (frV id (prsV tid Q) st.length) ∧ s = s1) ?_ ?_)
    · rw [bodyV_eq Tryd.func38 rfl]
      simp only [hdC]
      refine awp_c (M := [5, 6]) ?_
      unfold frV
      simp only [go_sem, reduceCtorEq, Nat.reduceAdd, Nat.reduceMul, Nat.reduceLeDiff, Nat.reduceLT, Int.reduceLE, Int.reduceLT, Int.reduceEq, Nat.reduceBEq, Nat.reduceEqDiff, hs1]
      repeat (first | exact leEnv_nil | refine leEnv_any _ ?_ | refine leEnv_same _ ?_ | refine leEnv_norm _ ?_)
    rintro e env s ⟨rfl, hle, rfl⟩
    show AWp _ _ _ _ _
    refine awp_weaken hle ?_
    have hid := lt_of_get hR.hid
    have hgpa := LK_gp hRG.bg.ends hRG.bg.gp hx
    have hgpb := LK_gp hRG.bg.ends hRG.bg.gp hy
    have hsma := LK_sm hRG.bg.ends hRG.bg.gp.gb hRG.sm (good_gd hx) hnx
    have hsmb := LK_sm hRG.bg.ends hRG.bg.gp.gb hRG.sm (good_gd hy) hny
    have hnma := LK_nm hRG.bg.ends hRG.bg.gp.gb hRG.nm (good_gd hx) hmx
    have hnmb := LK_nm hRG.bg.ends hRG.bg.gp.gb hRG.nm (good_gd hy) hmy
    refine coreV_c hn hRG hx hy hnx hny hmx hmy hQ hR1 hk1 e0 e1 ⟨by omega, by omega⟩ (fun x' y' R1 Q1 K' s2 va' vb' ma mb hlen hmv hRG1 hQ1 hR2 hk2 hK => ?_) K fun e s' R' Q' u1 u2 u3 u4 u5 u6 u7 u8 => ?_
    · have na' : nd x' ≤ 1000 := by have := nd_mem ma; have := nd_eq (LK (gR R) x); omega
      have nb' : nd y' ≤ 1000 := by have := nd_mem mb; have := nd_eq (LK (gR R) y); omega
      have gx := gp_args hgpa va' x' ma
      have gy := gp_args hgpb vb' y' mb
      rcases hmv with hmv | hmv
      · refine ihm x' y' R1 Q1 K' s2 hlen (by rw [hmv]; exact hq) ?_ gx gy na' nb' (nm_args hnma x' ma) (nm_args hnmb y' mb) hRG1 hQ1 hR2 hk2 hK
        rw [hmv]
        have := rec_step (n := 0) hRG.bg.ends hRG.bg.gp.gb (good_gd hx) ma
        omega
      · exact ihq (unb R.length (gR R1)) (by omega) _ x' y' R1 Q1 K' s2 hlen (Nat.le_refl _) (Nat.le_refl _) gx gy na' nb' (nm_args hnma x' ma) (nm_args hnmb y' mb) hRG1 hQ1 hR2 hk2 hK
    · exact h e s' R' Q' ⟨u1, u2, u3, u4, u5, u6, u7, hG1.after u8 fun j hj => by simp at hj; rcases hj with q | q | q | q | q <;> first | (left; omega) | (right; simp [q])⟩

set_option maxHeartbeats 4000000 in
theorem unifyV0_c {id a b va vb : Nat} {R : List (Option Ty)} (hn : R.length ≤ 100) {x y : Ty} (hx : goodB (ownP R.length) x = true) (hy : goodB (ownP R.length) y = true) (hnx : nd x ≤ 1000) (hny : nd y ≤ 1000) (hmx : nmB x = true) (hmy : nmB y = true) (hRG : RG R.length (gR R)) (K : SV → St → Prop) (st : St) (hR : RSt st id a b va vb R)
    (h : ∀ (e : Int) (v : SV) s' R' P', UniL (gR R) noP [x] [y] e (gR R') P' → RG R.length (gR R') → R'.length = R.length → RSt s' id a b va vb R' → Gs [a, b] st s' → K (.tuple [v, .sc (.int .i64 e)]) s') :
    ACalls Tryd.prog 38 [.ptr id 0, tySV x, tySV y, .slice .full 0 []] K st := by
  refine acalls_goA (c := bodyV) Tryd.func38 (by rw [bodyV_eq Tryd.func38 rfl]; rfl) Tryd.results38 Tryd.ntmps38 ?_
  rw [bodyV_shape]
  have hca := cells_ty x
  have hcb := cells_ty y
  obtain ⟨s1, hs1⟩ : ∃ s1, st ++ [Ob.cells (tySV x).cells, Ob.cells (tySV y).cells] = s1 := ⟨_, rfl⟩
  have hl1 : s1.length = st.length + 2 := by rw [← hs1]; simp
  have e0 : s1[st.length]? = some (.cells (tySV x).cells) := by rw [← hs1]; simp
  have e1 : s1[st.length + 1]? = some (.cells (tySV y).cells) := by rw [← hs1]; simp
  have hG1 : Gs [a, b] st s1 := by rw [← hs1]; exact (Gs.refl _ st).app _
  have hR1 : RSt s1 id a b va vb R := by rw [← hs1]; exact hR.app _
  rw [hca] at e0
  rw [hcb] at e1
  refine awp_seq (AWp.mono (Q := fun e env s => e = .normal ∧ LeEnv env (frV id (.slice .full 0 []) st.length) ∧ s = s1) ?_ ?_)
  · rw [bodyV_eq Tryd.func38 rfl]
    simp only [hdC]
    refine awp_c (M := [5, 6]) ?_
    unfold frV
    simp only [go_sem, reduceCtorEq, Nat.reduceAdd, Nat.reduceMul, Nat.reduceLeDiff, Nat.reduceLT, Int.reduceLE, Int.reduceLT, Int.reduceEq, Nat.reduceBEq, Nat.reduceEqDiff, hs1]
    repeat (first | exact leEnv_nil | refine leEnv_any _ ?_ | refine leEnv_same _ ?_ | refine leEnv_norm _ ?_)
  rintro e env s ⟨rfl, hle, rfl⟩
  show AWp _ _ _ _ _
  refine awp_weaken hle (awp_own 3 2 0 rfl ?_)
  have hid := lt_of_get hR.hid
  have hgpa := LK_gp hRG.bg.ends hRG.bg.gp hx
  have hgpb := LK_gp hRG.bg.ends hRG.bg.gp hy
  have hsma := LK_sm hRG.bg.ends hRG.bg.gp.gb hRG.sm (good_gd hx) hnx
  have hsmb := LK_sm hRG.bg.ends hRG.bg.gp.gb hRG.sm (good_gd hy) hny
  have hnma := LK_nm hRG.bg.ends hRG.bg.gp.gb hRG.nm (good_gd hx) hmx
  have hnmb := LK_nm hRG.bg.ends hRG.bg.gp.gb hRG.nm (good_gd hy) hmy
  have old : ∀ j o, s[j]? = some o → (s ++ [Ob.tok 0])[j]? = some o := fun j o hj => (List.getElem?_append_left (lt_of_get hj)).trans hj
  refine coreV_c (Q := []) (tid := s.length) hn hRG hx hy hnx hny hmx hmy ⟨List.nodup_nil, fun k hk => (by cases hk)⟩ (hR1.app _) (by simp) (old _ _ e0) (old _ _ e1) ⟨by omega, by omega⟩ (fun x' y' R1 Q1 K' s2 va' vb' ma mb hlen hmv hRG1 hQ1 hR2 hk2 hK => ?_) K fun e s' R' Q' u1 u2 u3 u4 u5 u6 u7 u8 => ?_
  · have na' : nd x' ≤ 1000 := by have := nd_mem ma; have := nd_eq (LK (gR R) x); omega
    have nb' : nd y' ≤ 1000 := by have := nd_mem mb; have := nd_eq (LK (gR R) y); omega
    exact unifyV_c hn _ _ x' y' R1 Q1 K' s2 hlen (Nat.le_refl _) (Nat.le_refl _) (gp_args hgpa va' x' ma) (gp_args hgpb vb' y' mb) na' nb' (nm_args hnma x' ma) (nm_args hnmb y' mb) hRG1 hQ1 hR2 hk2 hK
  · rw [noP_q] at u1
    exact h e _ s' R' _ u1 u2 u3 u6 ((hG1.app _).after u8 fun j hj => by simp at hj; rcases hj with q | q | q | q | q <;> first | (left; omega) | (right; simp [q]))

end Go.Proofs
set_option linter.unusedSimpArgs false
set_option linter.unusedVariables false
set_option maxRecDepth 8000
namespace Go.Proofs
open Go Go.AL

theorem chunks3 (R : List (Option Ty)) : chunksOf 3 R.length (R.flatMap rty) = R.map fun o => .agg (rty o) := by
  unfold chunksOf
  rw [if_neg (by decide)]
  apply List.ext_getElem?
  intro i
  by_cases hi : i < R.length
  · have := rty_at hi
    simp [hi, this, List.getD_eq_getElem?_getD]
  · rw [List.getElem?_eq_none (by simp; omega), List.getElem?_eq_none (by simp; omega)]
theorem flat_bits (R : List (Option Ty)) : (R.flatMap fun x => (SV.sc (.bool x.isSome)).cells) = R.map fun x => .sc (.bool x.isSome) := by
  induction R with
  | nil => rfl
  | cons o r ih => rw [List.flatMap_cons, ih]; rfl
theorem chunks1 (n : Nat) (l : List SV) : chunksOf 1 n l = l.take n := by unfold chunksOf; rw [if_pos rfl]
theorem rty_ok (o : Option Ty) : (rty o).length = 3 ∧ (rty o).all cellOk = true := by
  cases o with
  | none => exact ⟨rfl, rfl⟩
  | some t => exact ⟨ty_len t, all_ty t⟩

set_option maxHeartbeats 4000000 in
theorem copy_c {id a b va vb : Nat} {R : List (Option Ty)} {st : St} (hR : RSt st id a b va vb R) (hn : R.length ≤ 1000) (K : SV → St → Prop)
    (h : ∀ s', RSt s' st.length (st.length + 1) (st.length + 2) 1 1 R → Gs [] st s' → K (.ptr st.length 0) s') : ACalls Tryd.prog 37 [.ptr id 0] K st := by
  refine acalls_go (M := [5]) Tryd.func37 rfl Tryd.results37 Tryd.ntmps37 ?_
  obtain ⟨s1, hs1⟩ : ∃ s1, st ++ [Ob.cells [.slice .full 0 [], .slice .full 0 []]] = s1 := ⟨_, rfl⟩
  have hl1 : s1.length = st.length + 1 := by rw [← hs1]; simp
  have k0 : s1[st.length]? = some (.cells [.slice .full 0 [], .slice .full 0 []]) := by rw [← hs1]; simp
  have hR1 : RSt s1 id a b va vb R := by rw [← hs1]; exact hR.app _
  have f := cells_facts k0
  have hi := cells_facts hR1.hid
  have fa := arr_facts hR1.ha
  simp only [go_sem, reduceCtorEq, Nat.reduceAdd, Nat.reduceMul, Nat.reduceLeDiff, Nat.reduceLT, Int.reduceLE, Int.reduceLT, Int.reduceEq, Nat.reduceBEq, Nat.reduceEqDiff, hs1]
  refine awp_drawT [1000015] [2, 0, 0, 0, 0, 0, 0, 0, 0, 3, 2, 2, 3] (fun _ => True) Tryd.mixed rfl trivial ?_
  simp only [go_sem, reduceCtorEq, Nat.reduceAdd, Nat.reduceMul, Nat.reduceLeDiff, Nat.reduceLT, Int.reduceLE, Int.reduceLT, Int.reduceEq, Nat.reduceBEq, Nat.reduceEqDiff, drawU_n, drawU_0, drawU_1, drawU_2, drawU_3, isStore_s, f.1, f.2.1, f.2.2, hi.1, hi.2.1, hi.2.2, fa.1, fa.2.1, fa.2.2.1, fa.2.2.2]
  have hlen := rty_len R
  have htk : (R.flatMap rty).take (R.length * 3) = R.flatMap rty := List.take_of_length_le (by omega)
  have htk1 : ∀ n, n = R.length → (R.map fun x => SV.sc (.bool x.isSome)).take n = R.map fun x => .sc (.bool x.isSome) := fun n e => List.take_of_length_le (by simp [e])
  obtain ⟨s2, hs2⟩ : ∃ s2, s1 ++ [Ob.arr 1 3 (R.flatMap rty)] = s2 := ⟨_, rfl⟩
  have m0 : s2[st.length]? = some (.cells [.slice .full 0 [], .slice .full 0 []]) := by rw [← hs2, List.getElem?_append_left (by omega)]; exact k0
  have m1 : s2[st.length + 1]? = some (.arr 1 3 (R.flatMap rty)) := by rw [← hs2, ← hl1]; simp
  have g := cells_facts m0
  refine ⟨.arr s1.length 1 R.length, s2, ⟨by rw [chunks3]; simp, ?_, ?_, app3 (by omega), rfl, by rw [htk]; exact hs2⟩, ?_⟩
  · rw [chunks3, htk]
    rw [List.flatMap_map]
    rfl
  · intro x hx
    rw [chunks3] at hx
    obtain ⟨o, _, rfl⟩ := List.mem_map.1 hx
    exact rty_ok o
  obtain ⟨s3, hs3⟩ : ∃ s3, s2.set st.length (.cells [.arr (st.length + 1) 1 R.length, .slice .full 0 []]) = s3 := ⟨_, rfl⟩
  have n0 : s3[st.length]? = some (.cells [.arr (st.length + 1) 1 R.length, .slice .full 0 []]) := by rw [← hs3]; exact List.getElem?_set_self (lt_of_get m0)
  have n1 : s3[st.length + 1]? = some (.arr 1 3 (R.flatMap rty)) := by rw [← hs3, List.getElem?_set_ne (by omega)]; exact m1
  have hl3 : s3.length = st.length + 2 := by rw [← hs3, List.length_set, ← hs2]; simp; omega
  have hG3 : Gs [] st s3 := by
    rw [← hs3, ← hs2, ← hs1]
    exact (((Gs.refl _ st).app _).app _).set (.inl (Nat.le_refl _)) _
  have hR3 : RSt s3 id a b va vb R := RSt.gs hG3 hR (by simp) (by simp) (by simp)
  have q := cells_facts n0
  have hi3 := cells_facts hR3.hid
  have fb3 := arr_facts hR3.hb
  simp only [go_sem, reduceCtorEq, Nat.reduceAdd, Nat.reduceMul, Nat.reduceLeDiff, Nat.reduceLT, Int.reduceLE, Int.reduceLT, Int.reduceEq, Nat.reduceBEq, Nat.reduceEqDiff, g.1, g.2.1, g.2.2, hl1, hs3]
  refine ⟨_, _, ⟨rfl, rfl⟩, ?_⟩
  refine awp_drawT [1000027] [2, 0, 0, 0, 0, 0, 0, 0, 0, 3, 2, 2, 3] (fun _ => True) Tryd.mixed rfl trivial ?_
  simp only [go_sem, reduceCtorEq, Nat.reduceAdd, Nat.reduceMul, Nat.reduceLeDiff, Nat.reduceLT, Int.reduceLE, Int.reduceLT, Int.reduceEq, Nat.reduceBEq, Nat.reduceEqDiff, drawU_n, drawU_0, drawU_1, drawU_2, drawU_3, isStore_s, q.1, q.2.1, q.2.2, hi3.1, hi3.2.1, hi3.2.2, fb3.1, fb3.2.1, fb3.2.2.1, fb3.2.2.2]
  obtain ⟨s4, hs4⟩ : ∃ s4, s3 ++ [Ob.arr 1 1 (R.map fun x => .sc (.bool x.isSome))] = s4 := ⟨_, rfl⟩
  have p0 : s4[st.length]? = some (.cells [.arr (st.length + 1) 1 R.length, .slice .full 0 []]) := by rw [← hs4, List.getElem?_append_left (by omega)]; exact n0
  have p1 : s4[st.length + 1]? = some (.arr 1 3 (R.flatMap rty)) := by rw [← hs4, List.getElem?_append_left (by omega)]; exact n1
  have p2 : s4[st.length + 2]? = some (.arr 1 1 (R.map fun x => .sc (.bool x.isSome))) := by rw [← hs4, ← hl3]; simp
  have w := cells_facts p0
  refine ⟨.arr s3.length 1 R.length, s4, ⟨by rw [chunks1, htk1 _ rfl]; simp, ?_, ?_, app1b (by omega), rfl, by rw [htk1 _ (Nat.mul_one _)]; exact hs4⟩, ?_⟩
  · rw [chunks1, htk1 _ rfl, htk1 _ (Nat.mul_one _), List.flatMap_map]
    exact flat_bits R
  · intro x hx
    rw [chunks1, htk1 _ rfl] at hx
    obtain ⟨o, _, rfl⟩ := List.mem_map.1 hx
    exact ⟨rfl, rfl⟩
  simp only [go_sem, reduceCtorEq, Nat.reduceAdd, Nat.reduceMul, Nat.reduceLeDiff, Nat.reduceLT, Int.reduceLE, Int.reduceLT, Int.reduceEq, Nat.reduceBEq, Nat.reduceEqDiff, w.1, w.2.1, w.2.2, hl3]
  refine ⟨_, _, ⟨rfl, rfl⟩, ?_⟩
  refine h _ ⟨List.getElem?_set_self (lt_of_get p0), by rw [List.getElem?_set_ne (by omega)]; exact p1, by rw [List.getElem?_set_ne (by omega)]; exact p2, by omega⟩ ?_
  rw [← hs4]
  exact (hG3.app _).set (.inl (Nat.le_refl _)) _

end Go.Proofs
set_option linter.unusedSimpArgs false
set_option linter.unusedVariables false
set_option maxRecDepth 8000
namespace Go.Proofs
open Go Go.AL

noncomputable def bodyK : Code := (((Tryd.prog.funcs[18]?).bind (·.body)).getD .skip)
theorem bodyK_eq {fn : Func} {c : Code} (hf : Tryd.prog.funcs[18]? = some fn) (hb : fn.body = some c) : bodyK = c := by
  unfold bodyK; rw [hf]; simp [hb]
noncomputable def r0K : Code := hdC bodyK
noncomputable def r1K : Code := hdC (tlC bodyK)
noncomputable def r2K : Code := hdC (tlC (tlC bodyK))
noncomputable def r3K : Code := hdC (tlC (tlC (tlC bodyK)))
noncomputable def r5K : Code := hdC (tlC (tlC (tlC (tlC bodyK))))
noncomputable def r6K : Code := hdC (tlC (tlC (tlC (tlC (tlC bodyK)))))
noncomputable def tailK : Code := tlC (tlC (tlC (tlC (tlC (tlC bodyK)))))
theorem bodyK_shape : bodyK = .seq r0K (.seq r1K (.seq r2K (.seq r3K (.seq r5K (.seq r6K tailK))))) := by
  have hb := bodyK_eq Tryd.func18 rfl
  unfold r0K r1K r2K r3K r5K r6K tailK
  rw [hb]; rfl
def frK (id p : Nat) : List SV := [.ptr id 0, .any, .any, .any, .ptr p 0, .ptr (p + 1) 0, .any, .any, .any, .any, .any, .any, .any, .any, .any, .any, .any, .any, .any, .any, .any, .any, .any, .any, .any, .any, .any, .any, .any, .any, .any, .any, .any, .any, .any, .any, .any, .any, .any, .any, .any, .any, .any, .any, .any, .any, .any, .any, .any, .any, .any, .any, .any, .any, .any, .any, .any, .any]
def frK1 (id p : Nat) (u w : Bool) : List SV := [.ptr id 0, .any, .any, .any, .ptr p 0, .ptr (p + 1) 0, .any, .sc (.bool u), .sc (.bool w), .any, .any, .any, .any, .any, .any, .any, .any, .any, .any, .any, .any, .any, .any, .any, .any, .any, .any, .any, .any, .any, .any, .any, .any, .any, .any, .any, .any, .any, .any, .any, .any, .any, .any, .any, .any, .any, .any, .any, .any, .any, .any, .any, .any, .any, .any, .any, .any, .any]
def frK2 (id p c : Nat) : List SV := [.ptr id 0, .any, .any, .any, .ptr p 0, .ptr (p + 1) 0, .any, .any, .any, .ptr c 0, .any, .any, .any, .any, .any, .any, .any, .any, .any, .any, .any, .any, .any, .any, .any, .any, .any, .any, .any, .any, .any, .any, .any, .any, .any, .any, .any, .any, .any, .any, .any, .any, .any, .any, .any, .any, .any, .any, .any, .any, .any, .any, .any, .any, .any, .any, .any, .any]
def frK3 (id p c : Nat) (e : Int) : List SV := [.ptr id 0, .any, .any, .any, .ptr p 0, .any, .any, .any, .any, .ptr c 0, .any, .sc (.int .i64 e), .any, .any, .any, .any, .any, .any, .any, .any, .any, .any, .any, .any, .any, .any, .any, .any, .any, .any, .any, .any, .any, .any, .any, .any, .any, .any, .any, .any, .any, .any, .any, .any, .any, .any, .any, .any, .any, .any, .any, .any, .any, .any, .any, .any, .any, .any]

set_option maxHeartbeats 4000000 in
theorem tailK_c {id a b va vb c ca cb : Nat} {R R' : List (Option Ty)} (hn : R'.length ≤ 100) (hRG : RG R'.length (gR R')) {x : Ty} (hx : goodB (ownP R'.length) x = true) {p : Nat} {s : St} (hR : RSt s id a b va vb R') (hC : RSt s c ca cb 1 1 R) (hci : c ≠ id) (hlen : R'.length = R.length)
    (e0 : s[p]? = some (.cells [.sc (.int .i64 x.v), .sc (.string x.name), .slice .imm 3 (x.args.map tySV)])) (e : Int) (K : SV → St → Prop)
    (h0 : e = 0 → fitB (AP (gR R') x) = true → K (.sc (.int .i64 0)) s)
    (h1 : e = 0 → fitB (AP (gR R') x) = false → ∀ s', RSt s' id ca cb 1 1 R → Gs [id] s s' → K (.sc (.int .i64 1)) s')
    (h2 : e ≠ 0 → ∀ s', RSt s' id ca cb 1 1 R → Gs [id] s s' → K (.sc (.int .i64 e)) s') :
    AWp Tryd.prog tailK (RetR Tryd.prog #[ResultVar.tmp 6].toList K) (frK3 id p c e) s := by
  have hb' := bodyK_eq Tryd.func18 rfl
  have hr : tailK = _ := congrArg (fun c => tlC (tlC (tlC (tlC (tlC (tlC c)))))) hb'
  simp only [tlC] at hr
  rw [hr]
  clear hr hb'
  unfold frK3
  refine awp_c (M := []) ?_
  have f := cells_facts e0
  have hi := cells_facts hR.hid
  have hc := cells_facts hC.hid
  have hs := fun K h => rsize_c (by omega) hRG.bg 40 (by omega) x hx K s hR h
  have h40 : ((40 : Nat) : Int) = 40 := rfl
  rw [tySV_eq x, h40] at hs
  obtain ⟨s1, hs1⟩ : ∃ s1, s.set id (.cells [.arr ca 1 R.length, .arr b vb R'.length]) = s1 := ⟨_, rfl⟩
  have hi1' : s1[id]? = some (.cells [.arr ca 1 R.length, .arr b vb R'.length]) := by rw [← hs1]; exact List.getElem?_set_self (lt_of_get hR.hid)
  have hc1' : s1[c]? = some (.cells [.arr ca 1 R.length, .arr cb 1 R.length]) := by rw [← hs1, List.getElem?_set_ne hci.symm]; exact hC.hid
  have hi1 := cells_facts hi1'
  have hc1 := cells_facts hc1'
  have hG : Gs [id] s s1 := by rw [← hs1]; exact (Gs.refl _ s).set (.inr (by simp)) _
  have hia : id ≠ ca := by rintro rfl; have := hR.hid.symm.trans hC.ha; cases this
  have hib : id ≠ cb := by rintro rfl; have := hR.hid.symm.trans hC.hb; cases this
  have hfin : RSt (s1.set id (.cells [.arr ca 1 R.length, .arr cb 1 R.length])) id ca cb 1 1 R ∧ Gs [id] s (s1.set id (.cells [.arr ca 1 R.length, .arr cb 1 R.length])) := by
    refine ⟨⟨List.getElem?_set_self (lt_of_get hi1'), ?_, ?_, hC.ne⟩, hG.set (.inr (by simp)) _⟩
    · rw [List.getElem?_set_ne hia, ← hs1, List.getElem?_set_ne hia]; exact hC.ha
    · rw [List.getElem?_set_ne hib, ← hs1, List.getElem?_set_ne hib]; exact hC.hb
  by_cases he : e = 0
  · subst he
    cases hf : fitB (AP (gR R') x) with
    | true =>
      simp only [go_sem, reduceCtorEq, Nat.reduceAdd, Nat.reduceMul, Nat.reduceLeDiff, Nat.reduceLT, Int.reduceLE, Int.reduceLT, Int.reduceEq, Nat.reduceBEq, Nat.reduceEqDiff, f.1, f.2.1, f.2.2, beq_self_eq_true]
      refine hs _ fun n _ hc => ?_
      have hlt : (200 < n) = False := by rw [coun_fit hc, decide_eq_true_eq] at hf; exact eq_false (by omega)
      simp only [go_sem, reduceCtorEq, Nat.reduceAdd, Nat.reduceMul, Nat.reduceLeDiff, Nat.reduceLT, Int.reduceLE, Int.reduceLT, Int.reduceEq, Nat.reduceBEq, Nat.reduceEqDiff, hlt, beq_self_eq_true, bne_self_eq_false]
      exact h0 rfl hf
    | false =>
      simp only [go_sem, reduceCtorEq, Nat.reduceAdd, Nat.reduceMul, Nat.reduceLeDiff, Nat.reduceLT, Int.reduceLE, Int.reduceLT, Int.reduceEq, Nat.reduceBEq, Nat.reduceEqDiff, f.1, f.2.1, f.2.2, beq_self_eq_true]
      refine hs _ fun n _ hc' => ?_
      have hlt : (200 < n) = True := by rw [coun_fit hc', decide_eq_false_iff_not] at hf; exact eq_true (by omega)
      have c1 : ((1 : Int) != 0) = true := rfl
      simp only [go_sem, reduceCtorEq, Nat.reduceAdd, Nat.reduceMul, Nat.reduceLeDiff, Nat.reduceLT, Int.reduceLE, Int.reduceLT, Int.reduceEq, Nat.reduceBEq, Nat.reduceEqDiff, hlt, beq_self_eq_true, c1, hi.1, hi.2.1, hi.2.2, hc.1, hc.2.1, hc.2.2, hs1, hi1.1, hi1.2.1, hi1.2.2, hc1.1, hc1.2.1, hc1.2.2]
      exact h1 rfl hf _ hfin.1 hfin.2
  · have c0 : (e == 0) = false := by simp [he]
    have c1 : (e != 0) = true := by simp [he]
    simp only [go_sem, reduceCtorEq, Nat.reduceAdd, Nat.reduceMul, Nat.reduceLeDiff, Nat.reduceLT, Int.reduceLE, Int.reduceLT, Int.reduceEq, Nat.reduceBEq, Nat.reduceEqDiff, c0, c1, hi.1, hi.2.1, hi.2.2, hc.1, hc.2.1, hc.2.2, hs1, hi1.1, hi1.2.1, hi1.2.2, hc1.1, hc1.2.1, hc1.2.2]
    exact h2 he _ hfin.1 hfin.2

def frKa (id p : Nat) (u : Bool) : List SV := [.ptr id 0, .any, .any, .any, .ptr p 0, .ptr (p + 1) 0, .any, .sc (.bool u), .any, .any, .any, .any, .any, .any, .any, .any, .any, .any, .any, .any, .any, .any, .any, .any, .any, .any, .any, .any, .any, .any, .any, .any, .any, .any, .any, .any, .any, .any, .any, .any, .any, .any, .any, .any, .any, .any, .any, .any, .any, .any, .any, .any, .any, .any, .any, .any, .any, .any]

set_option maxHeartbeats 4000000 in
theorem r1K_c {id a b va vb : Nat} {R : List (Option Ty)} (hn : R.length ≤ 100) (hRG : RG R.length (gR R)) {x : Ty} {p : Nat} {s : St} (hR : RSt s id a b va vb R)
    (e0 : s[p]? = some (.cells [.sc (.int .i64 x.v), .sc (.string x.name), .slice .imm 3 (x.args.map tySV)])) (Z : Exit → List SV → St → Prop)
    (h : ∀ env, LeEnv env (frKa id p (okT R.length (gR R) x)) → Z .normal env s) : AWp Tryd.prog r1K Z (frK id p) s := by
  have hb' := bodyK_eq Tryd.func18 rfl
  have hr1 : r1K = _ := congrArg (fun c => hdC (tlC c)) hb'
  simp only [tlC, hdC] at hr1
  rw [hr1]
  clear hr1 hb'
  unfold frK
  refine awp_c (M := []) ?_
  have f := cells_facts e0
  have hx := fun K h => rMay_c hR (by omega) hRG.bg x K h
  obtain ⟨w, hw⟩ : ∃ w, okT R.length (gR R) x = w := ⟨_, rfl⟩
  rw [hw] at hx h
  rw [tySV_eq x] at hx
  simp only [go_sem, reduceCtorEq, Nat.reduceAdd, Nat.reduceMul, Nat.reduceLeDiff, Nat.reduceLT, Int.reduceLE, Int.reduceLT, Int.reduceEq, Nat.reduceBEq, Nat.reduceEqDiff, f.1, f.2.1, f.2.2]
  refine hx _ ?_
  simp only [go_sem, reduceCtorEq, Nat.reduceAdd, Nat.reduceMul, Nat.reduceLeDiff, Nat.reduceLT, Int.reduceLE, Int.reduceLT, Int.reduceEq, Nat.reduceBEq, Nat.reduceEqDiff]
  exact h _ (by unfold frKa; repeat (first | exact leEnv_nil | refine leEnv_any _ ?_ | refine leEnv_same _ ?_ | refine leEnv_norm _ ?_))

set_option maxHeartbeats 4000000 in
theorem r2K_c {id a b va vb : Nat} {R : List (Option Ty)} (hn : R.length ≤ 100) (hRG : RG R.length (gR R)) {x : Ty} {p : Nat} {s : St} {u : Bool} (hR : RSt s id a b va vb R)
    (e0 : s[p + 1]? = some (.cells [.sc (.int .i64 x.v), .sc (.string x.name), .slice .imm 3 (x.args.map tySV)])) (Z : Exit → List SV → St → Prop)
    (h : ∀ env, LeEnv env (frK1 id p u (okT R.length (gR R) x)) → Z .normal env s) : AWp Tryd.prog r2K Z (frKa id p u) s := by
  have hb' := bodyK_eq Tryd.func18 rfl
  have hr1 : r2K = _ := congrArg (fun c => hdC (tlC (tlC c))) hb'
  simp only [tlC, hdC] at hr1
  rw [hr1]
  clear hr1 hb'
  unfold frKa
  refine awp_c (M := []) ?_
  have f := cells_facts e0
  have hx := fun K h => rMay_c hR (by omega) hRG.bg x K h
  obtain ⟨w, hw⟩ : ∃ w, okT R.length (gR R) x = w := ⟨_, rfl⟩
  rw [hw] at hx h
  rw [tySV_eq x] at hx
  simp only [go_sem, reduceCtorEq, Nat.reduceAdd, Nat.reduceMul, Nat.reduceLeDiff, Nat.reduceLT, Int.reduceLE, Int.reduceLT, Int.reduceEq, Nat.reduceBEq, Nat.reduceEqDiff, f.1, f.2.1, f.2.2]
  refine hx _ ?_
  simp only [go_sem, reduceCtorEq, Nat.reduceAdd, Nat.reduceMul, Nat.reduceLeDiff, Nat.reduceLT, Int.reduceLE, Int.reduceLT, Int.reduceEq, Nat.reduceBEq, Nat.reduceEqDiff]
  exact h _ (by unfold frK1; repeat (first | exact leEnv_nil | refine leEnv_any _ ?_ | refine leEnv_same _ ?_ | refine leEnv_norm _ ?_))

set_option maxHeartbeats 4000000 in
theorem r3K_c {id p : Nat} {u w : Bool} {s : St} (Z : Exit → List SV → St → Prop) (h1 : (u && w) = false → ∀ env, env.getD 6 .any = .sc (.int .i64 1) → Z .ret env s) (h2 : (u && w) = true → ∀ env, LeEnv env (frK id p) → Z .normal env s) :
    AWp Tryd.prog r3K Z (frK1 id p u w) s := by
  have hb' := bodyK_eq Tryd.func18 rfl
  have hr : r3K = _ := congrArg (fun c => hdC (tlC (tlC (tlC c)))) hb'
  simp only [tlC, hdC] at hr
  rw [hr]
  clear hr hb'
  unfold frK1
  refine awp_c (M := []) ?_
  cases u
  · simp only [go_sem, reduceCtorEq, Nat.reduceAdd, Nat.reduceMul, Nat.reduceLeDiff, Nat.reduceLT, Int.reduceLE, Int.reduceLT, Int.reduceEq, Nat.reduceBEq, Nat.reduceEqDiff]
    exact h1 rfl _ rfl
  · cases w
    · simp only [go_sem, reduceCtorEq, Nat.reduceAdd, Nat.reduceMul, Nat.reduceLeDiff, Nat.reduceLT, Int.reduceLE, Int.reduceLT, Int.reduceEq, Nat.reduceBEq, Nat.reduceEqDiff]
      exact h1 rfl _ rfl
    · simp only [go_sem, reduceCtorEq, Nat.reduceAdd, Nat.reduceMul, Nat.reduceLeDiff, Nat.reduceLT, Int.reduceLE, Int.reduceLT, Int.reduceEq, Nat.reduceBEq, Nat.reduceEqDiff]
      exact h2 rfl _ (by unfold frK; repeat (first | exact leEnv_nil | refine leEnv_any _ ?_ | refine leEnv_same _ ?_ | refine leEnv_norm _ ?_))

set_option maxHeartbeats 4000000 in
theorem r5K_c {id a b va vb : Nat} {R : List (Option Ty)} (hn : R.length ≤ 100) {p : Nat} {s : St} (hR : RSt s id a b va vb R) (Z : Exit → List SV → St → Prop)
    (h : ∀ env s', LeEnv env (frK2 id p s.length) → RSt s' s.length (s.length + 1) (s.length + 2) 1 1 R → Gs [] s s' → Z .normal env s') : AWp Tryd.prog r5K Z (frK id p) s := by
  have hb' := bodyK_eq Tryd.func18 rfl
  have hr : r5K = _ := congrArg (fun c => hdC (tlC (tlC (tlC (tlC c))))) hb'
  simp only [tlC, hdC] at hr
  rw [hr]
  clear hr hb'
  unfold frK
  refine awp_c (M := []) ?_
  simp only [go_sem, reduceCtorEq, Nat.reduceAdd, Nat.reduceMul, Nat.reduceLeDiff, Nat.reduceLT, Int.reduceLE, Int.reduceLT, Int.reduceEq, Nat.reduceBEq, Nat.reduceEqDiff]
  refine copy_c hR (by omega) _ fun s' h1 h2 => ?_
  simp only [go_sem, reduceCtorEq, Nat.reduceAdd, Nat.reduceMul, Nat.reduceLeDiff, Nat.reduceLT, Int.reduceLE, Int.reduceLT, Int.reduceEq, Nat.reduceBEq, Nat.reduceEqDiff]
  exact h _ s' (by unfold frK2; repeat (first | exact leEnv_nil | refine leEnv_any _ ?_ | refine leEnv_same _ ?_ | refine leEnv_norm _ ?_)) h1 h2

set_option maxHeartbeats 4000000 in
theorem r6K_c {id a b va vb c : Nat} {R : List (Option Ty)} (hn : R.length ≤ 100) (hRG : RG R.length (gR R)) {x y : Ty} (hx : goodB (ownP R.length) x = true) (hy : goodB (ownP R.length) y = true) (hnx : nd x ≤ 1000) (hny : nd y ≤ 1000) (hmx : nmB x = true) (hmy : nmB y = true) {p : Nat} {s : St} (hR : RSt s id a b va vb R)
    (e0 : s[p]? = some (.cells [.sc (.int .i64 x.v), .sc (.string x.name), .slice .imm 3 (x.args.map tySV)])) (e1 : s[p + 1]? = some (.cells [.sc (.int .i64 y.v), .sc (.string y.name), .slice .imm 3 (y.args.map tySV)])) (Z : Exit → List SV → St → Prop)
    (h : ∀ env (e : Int) s' R' P', UniL (gR R) noP [x] [y] e (gR R') P' → RG R.length (gR R') → R'.length = R.length → RSt s' id a b va vb R' → Gs [a, b] s s' → LeEnv env (frK3 id p c e) → Z .normal env s') : AWp Tryd.prog r6K Z (frK2 id p c) s := by
  have hb' := bodyK_eq Tryd.func18 rfl
  have hr : r6K = _ := congrArg (fun c => hdC (tlC (tlC (tlC (tlC (tlC c)))))) hb'
  simp only [tlC, hdC] at hr
  rw [hr]
  clear hr hb'
  unfold frK2
  refine awp_c (M := []) ?_
  have f := cells_facts e0
  have g := cells_facts e1
  have hu := fun K h => unifyV0_c hn hx hy hnx hny hmx hmy hRG K s hR h
  rw [tySV_eq x, tySV_eq y] at hu
  simp only [go_sem, reduceCtorEq, Nat.reduceAdd, Nat.reduceMul, Nat.reduceLeDiff, Nat.reduceLT, Int.reduceLE, Int.reduceLT, Int.reduceEq, Nat.reduceBEq, Nat.reduceEqDiff, f.1, f.2.1, f.2.2, g.1, g.2.1, g.2.2]
  refine hu _ fun e v s' R' P' u1 u2 u3 u4 u5 => ?_
  simp only [go_sem, reduceCtorEq, Nat.reduceAdd, Nat.reduceMul, Nat.reduceLeDiff, Nat.reduceLT, Int.reduceLE, Int.reduceLT, Int.reduceEq, Nat.reduceBEq, Nat.reduceEqDiff]
  exact h _ e s' R' P' u1 u2 u3 u4 u5 (by unfold frK3; repeat (first | exact leEnv_nil | refine leEnv_any _ ?_ | refine leEnv_same _ ?_ | refine leEnv_norm _ ?_))

theorem rUnify_c {id a b va vb : Nat} {R : List (Option Ty)} (hn : R.length ≤ 100) (hRG : RG R.length (gR R)) (x y : Ty) (hmx : nmB x = true) (hmy : nmB y = true) (K : SV → St → Prop) (st : St) (hR : RSt st id a b va vb R)
    (h : ∀ (e : Int) s' a' b' va' vb' R', UnR R.length (gR R) x y e (gR R') → RG R.length (gR R') → R'.length = R.length → RSt s' id a' b' va' vb' R' → Gs [id, a, b] st s' → K (.sc (.int .i64 e)) s') :
    ACalls Tryd.prog 18 [.ptr id 0, tySV x, tySV y] K st := by
  refine acalls_goA (c := bodyK) Tryd.func18 (by rw [bodyK_eq Tryd.func18 rfl]; rfl) Tryd.results18 Tryd.ntmps18 ?_
  rw [bodyK_shape]
  have hca := cells_ty x
  have hcb := cells_ty y
  obtain ⟨s1, hs1⟩ : ∃ s1, st ++ [Ob.cells (tySV x).cells, Ob.cells (tySV y).cells] = s1 := ⟨_, rfl⟩
  have hl1 : s1.length = st.length + 2 := by rw [← hs1]; simp
  have e0 : s1[st.length]? = some (.cells (tySV x).cells) := by rw [← hs1]; simp
  have e1 : s1[st.length + 1]? = some (.cells (tySV y).cells) := by rw [← hs1]; simp
  have hG1 : Gs [id, a, b] st s1 := by rw [← hs1]; exact (Gs.refl _ st).app _
  have hR1 : RSt s1 id a b va vb R := by rw [← hs1]; exact hR.app _
  rw [hca] at e0
  rw [hcb] at e1
  refine awp_seq (AWp.mono (Q := fun e env s => e = .normal ∧ LeEnv env (frK id st.length) ∧ s = s1) ?_ ?_)
  · have hr : r0K = _ := congrArg hdC (bodyK_eq Tryd.func18 rfl)
    simp only [hdC] at hr
    rw [hr]
    refine awp_c (M := [4, 5]) ?_
    unfold frK
    simp only [go_sem, reduceCtorEq, Nat.reduceAdd, Nat.reduceMul, Nat.reduceLeDiff, Nat.reduceLT, Int.reduceLE, Int.reduceLT, Int.reduceEq, Nat.reduceBEq, Nat.reduceEqDiff, hs1]
    repeat (first | exact leEnv_nil | refine leEnv_any _ ?_ | refine leEnv_same _ ?_ | refine leEnv_norm _ ?_)
  rintro e env s ⟨rfl, hle, rfl⟩
  show AWp _ _ _ _ _
  refine awp_weaken hle (awp_seq (r1K_c hn hRG hR1 e0 _ fun env hl => ?_))
  show AWp _ _ _ _ _
  refine awp_weaken hl (awp_seq (r2K_c hn hRG hR1 e1 _ fun env hl => ?_))
  show AWp _ _ _ _ _
  refine awp_weaken hl (awp_seq (r3K_c _ (fun hb env h6 => ?_) (fun hok env hl => ?_)))
  · refine retR6 h6 (h 1 s a b va vb R ⟨fun _ => ⟨rfl, rfl⟩, fun r => ?_⟩ hRG rfl hR1 hG1)
    rw [hb] at r; cases r
  show AWp _ _ _ _ _
  refine awp_weaken hl (awp_seq (r5K_c hn hR1 _ (fun env s2 hl hC hG2 => ?_)))
  show AWp _ _ _ _ _
  have hR2 := RSt.gs hG2 hR1 (by simp) (by simp) (by simp)
  have f0 := (hG2.same _ (lt_of_get e0) (by simp)).trans e0
  have f1 := (hG2.same _ (lt_of_get e1) (by simp)).trans e1
  have hok2 := hok
  rw [Bool.and_eq_true] at hok2
  have ox := hok2.1
  have oy := hok2.2
  unfold okT at ox oy
  rw [Bool.and_eq_true] at ox oy
  have nx := may_fitB ox.1
  have ny := may_fitB oy.1
  unfold fitB at nx ny
  simp only [Bool.and_eq_true, decide_eq_true_eq] at nx ny
  have gx := may_good ox.1
  have gy := may_good oy.1
  refine awp_weaken hl (awp_seq (r6K_c hn hRG gx gy (by omega) (by omega) hmx hmy hR2 f0 f1 _ (fun env e s3 R' P' u1 u2 u3 u4 u5 hl => ?_)))
  show AWp _ _ _ _ _
  have hli := lt_of_get hR.hid
  have hla := lt_of_get hR.ha
  have hlb := lt_of_get hR.hb
  have hC3 : RSt s3 s.length (s.length + 1) (s.length + 2) 1 1 R := RSt.gs u5 hC (by simp; omega) (by simp; omega) (by simp; omega)
  have k0 := (u5.same _ (lt_of_get f0) (by simp; omega)).trans f0
  have hG3 : Gs [id, a, b] st s3 := (hG1.trans (hG2.mono fun j hj => by cases hj)).trans (u5.mono fun j hj => .inr (by simp at hj; rcases hj with q | q <;> simp [q]))
  have back : ∀ (e' : Int) s4, (∃ e1 B1 P1, UniL (gR R) noP [x] [y] e1 B1 P1 ∧ ((e1 = 0 ∧ fitB (AP B1 x) = false ∧ e' = 1) ∨ (e1 ≠ 0 ∧ e' = e1))) → RSt s4 id (s.length + 1) (s.length + 2) 1 1 R → Gs [id] s3 s4 → K (.sc (.int .i64 e')) s4 := fun e' s4 ⟨e1, B1, P1, h1, h2⟩ hR4 hG4 => by
    refine h e' s4 _ _ _ _ R ⟨fun q => ?_, fun _ => ⟨e1, B1, P1, h1, ?_⟩⟩ hRG rfl hR4 (hG3.trans (hG4.mono fun j hj => .inr (by simp at hj; simp [hj])))
    · rw [hok] at q; cases q
    · rcases h2 with ⟨p1, p2, p3⟩ | ⟨p1, p2⟩
      · exact .inr (.inl ⟨p1, p2, p3, rfl⟩)
      · exact .inr (.inr ⟨p1, p2, rfl⟩)
  refine awp_weaken hl (tailK_c (R := R) (by omega) (by rw [u3]; exact u2) (by rw [u3]; exact gx) u4 hC3 (by omega) u3 k0 e K (fun z hf => ?_) (fun z hf s4 hR4 hG4 => back 1 s4 ⟨e, _, _, u1, .inl ⟨z, hf, rfl⟩⟩ hR4 hG4) (fun z s4 hR4 hG4 => back e s4 ⟨e, _, _, u1, .inr ⟨z, rfl⟩⟩ hR4 hG4))
  subst z
  exact h 0 s3 a b va vb R' ⟨fun q => (by rw [hok] at q; cases q), fun _ => ⟨0, _, _, u1, .inl ⟨rfl, hf, rfl, rfl⟩⟩⟩ u2 u3 u4 hG3

end Go.Proofs
