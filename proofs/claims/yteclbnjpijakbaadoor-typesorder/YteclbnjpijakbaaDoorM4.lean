/- The engine: in. -/
import Derived.Test.YteclbnjpijakbaaDoorM3
set_option linter.unusedSimpArgs false
set_option linter.unusedVariables false
set_option maxRecDepth 8000
namespace Go.Proofs
open Go Go.AL

/-- What is written is small. -/
def Sm (B : Bd) : Prop := ∀ w b, B w = some b → nd b ≤ 1000
theorem LK_sm {B : Bd} (h : EndB B) (hG : Gb B) (hS : Sm B) {t : Ty} (hg : gd t = true) (hn : nd t ≤ 1000) : nd (LK B t) ≤ 1000 := by
  obtain ⟨n, he⟩ := h.all hg
  induction n generalizing t with
  | zero => exact he.elim
  | succ n ih =>
    by_cases hv : t.v = 0
    · rw [LK_con h hg hv]; exact hn
    · cases hb : B t.v with
      | none => rw [LK_free hv hb]; exact hn
      | some b =>
        rw [en_bound hv hb] at he
        rw [LK_bound h hv hb (hG _ _ hb)]
        exact ih (hG _ _ hb) (hS _ _ hb) he

theorem len_nd : ∀ l : List Ty, l.length ≤ ndL l
  | [] => Nat.le_refl _
  | a :: r => by rw [ndL, List.length_cons]; have := nd_pos a; have := len_nd r; omega

def i64V (n : Int) : SV := .sc (.int .i64 n)

/-- What `in` has seen. -/
def InI (B : Bd) (v : Int) (T : Nat) (H : List (Int × Int)) : Prop := ∀ w c, gmGet H w = some c → w ≠ 0 ∧ c = 1 ∧ (v ∉ vsT (AP B (.mk w ⟨#[]⟩ [])) ∨ T < nd (AP B (.mk w ⟨#[]⟩ [])))

/-- What was there is as it was, but for one object. -/
structure Gx (hid : Nat) (st s : St) : Prop where
  len : st.length ≤ s.length
  same : ∀ j, j < st.length → j ≠ hid → s[j]? = st[j]?
theorem Gx.refl (hid : Nat) (st : St) : Gx hid st st := ⟨Nat.le_refl _, fun _ _ _ => rfl⟩
theorem Gx.app {hid : Nat} {st s : St} (h : Gx hid st s) (l : St) : Gx hid st (s ++ l) :=
  ⟨by rw [List.length_append]; have := h.len; omega, fun j hj hn => by rw [List.getElem?_append_left (Nat.lt_of_lt_of_le hj h.len)]; exact h.same j hj hn⟩
theorem Gx.set {hid : Nat} {st s : St} (h : Gx hid st s) {j : Nat} (hj : st.length ≤ j ∨ j = hid) (o : Ob) : Gx hid st (s.set j o) :=
  ⟨by rw [List.length_set]; exact h.len, fun i hi hn => by rw [List.getElem?_set_ne (by omega)]; exact h.same i hi hn⟩
theorem Gx.trans {hid : Nat} {a b c : St} (h : Gx hid a b) (k : Gx hid b c) : Gx hid a c :=
  ⟨Nat.le_trans h.len k.len, fun j hj hn => (k.same j (Nat.lt_of_lt_of_le hj h.len) hn).trans (h.same j hj hn)⟩
theorem Gx.tst {hid : Nat} {st s : St} (h : Gx hid st s) {id mid : Nat} {vs : Int} {M : List (Int × Ty)} (hT : TSt st id mid vs M) (h1 : hid ≠ id) (h2 : hid ≠ mid) : TSt s id mid vs M :=
  ⟨(h.same _ (lt_of_get hT.hid) h1.symm).trans hT.hid, (h.same _ (lt_of_get hT.hm) h2.symm).trans hT.hm⟩
theorem Gr.gx {st s : St} (h : Gr st s) (hid : Nat) : Gx hid st s := ⟨h.len, fun j hj _ => h.same j hj⟩

/-- What `in` leaves. -/
structure InE (B : Bd) (v : Int) (hid : Nat) (st : St) (H : List (Int × Int)) (s : St) (H' : List (Int × Int)) : Prop where
  gx : Gx hid st s
  at' : s[hid]? = some (.map (gmEs i64V H'))
  new : ∀ w c, gmGet H' w = some c → gmGet H w = some c ∨ (w ≠ 0 ∧ c = 1 ∧ v ∉ vsT (AP B (.mk w ⟨#[]⟩ [])))

set_option maxHeartbeats 4000000 in
theorem in_c {id mid : Nat} {vs v : Int} {M : List (Int × Ty)} (hE : EndB (gmGet M)) (hG : Gb (gmGet M)) (hS : Sm (gmGet M)) (hv0 : v ≠ 0) (hvb : gmGet M v = none) {hid : Nat} (hi1 : hid ≠ id) (hi2 : hid ≠ mid) :
    ∀ (d : Nat) (t : Ty), gd t = true → nd t ≤ 1000 → dp (AP (gmGet M) t) ≤ d → ∀ (H : List (Int × Int)) (K : SV → St → Prop) (st : St), TSt st id mid vs M → st[hid]? = some (.map (gmEs i64V H)) →
    InI (gmGet M) v (nd (AP (gmGet M) t)) H → (v ∉ vsT (AP (gmGet M) t) → ∀ s H', InE (gmGet M) v hid st H s H' → K (.sc (.bool false)) s) → (v ∈ vsT (AP (gmGet M) t) → ∀ s H', Gx hid st s → s[hid]? = some (.map (gmEs i64V H')) → K (.sc (.bool true)) s) →
    ACalls Tryd.prog 49 [.ptr id 0, .sc (.int .i64 v), tySV t, .mp hid] K st := by
  intro d
  induction d with
  | zero => intro t hg hn hd; have := dp_pos (AP (gmGet M) t); omega
  | succ d ih =>
    intro t hg hn hd H K st hT hH hI hf ht
    refine acalls_go (M := [6]) Tryd.func49 rfl Tryd.results49 Tryd.ntmps49 ?_
    have hml : IntKeys (gmEs i64V H) := gm_int i64V H
    have hne : hid < st.length := lt_of_get hH
    have hlk := @look_c
    have e0 : (st ++ [Ob.cells (tySV t).cells])[st.length]? = some (.cells (tySV t).cells) := by simp
    have eh : (st ++ [Ob.cells (tySV t).cells])[hid]? = some (.map (gmEs i64V H)) := (List.getElem?_append_left hne).trans hH
    have hct := cells_ty t
    have hz : gmGet H t.v ≠ none → t.v ≠ 0 → gmGet H t.v = some 1 ∧ v ∉ vsT (AP (gmGet M) t) := fun h1 h2 => by
      cases hc : gmGet H t.v with
      | none => exact absurd hc h1
      | some c =>
        obtain ⟨q1, q2, q3⟩ := hI _ _ hc
        rw [q2]
        rw [← gd_var hg h2] at q3
        exact ⟨rfl, q3.resolve_right (by omega)⟩
    generalize hs1 : st ++ [Ob.cells (tySV t).cells] = s1 at e0 eh
    have hG1 : Gx hid st s1 := by rw [← hs1]; exact (Gx.refl hid st).app _
    have f := cells_facts e0
    have m1 := mapAt_eq eh
    have mg := mapGet_int (P := Tryd.prog) (t := 77) (n := t.v) Tryd.amap77 Tryd.zeroSV3 m1 hml
    have mp := fun (x : SV) (N : St → Prop) => put_int (P := Tryd.prog) (t := 77) (n := t.v) (v := x) (N := N) Tryd.amap77 m1 hml
    rw [gm_get] at mg
    obtain ⟨u, hu⟩ : ∃ u, u = LK (gmGet M) t := ⟨_, rfl⟩
    have htree := head_tree hE hG hg
    have hargs := head_args hE hG hg
    have hlsp := LK_spec hE hG hg
    have hsm := LK_sm hE hG hS hg hn
    rw [← hu] at htree hargs hlsp hsm
    obtain ⟨T, hTd⟩ : ∃ T, T = AP (gmGet M) t := ⟨_, rfl⟩
    rw [← hTd] at htree hI hz hf ht hd
    have hTa : T.args = u.args.map (AP (gmGet M)) := by rw [htree]; rfl
    have hcu := cells_ty u
    have main : ∀ (s0 : St) (H0 : List (Int × Int)), Gx hid st s0 → s0[st.length]? = some (.cells [.sc (.int .i64 t.v), .sc (.string t.name), .slice .imm 3 (t.args.map tySV)]) → s0[hid]? = some (.map (gmEs i64V H0)) →
        (∀ w c, gmGet H0 w = some c → gmGet H w = some c ∨ (w = t.v ∧ w ≠ 0 ∧ c = 1)) → True := fun _ _ _ _ _ _ => trivial
    by_cases hv : t.v = 0
    case' pos =>
      have b0 : (t.v != 0) = false := by simp [hv]
      rw [hct] at hs1 f e0
      obtain ⟨s0, hs0⟩ : ∃ s0, s1 = s0 := ⟨_, rfl⟩
      obtain ⟨H0, hH0⟩ : ∃ H0, H0 = H := ⟨_, rfl⟩
      have g1 : Gx hid st s0 := by rw [← hs0]; exact hG1
      have g2 := e0
      rw [hs0] at g2
      have g3 : s0[hid]? = some (.map (gmEs i64V H0)) := by rw [hH0, ← hs0]; exact eh
      have g4 : ∀ w c, gmGet H0 w = some c → gmGet H w = some c ∨ (w = t.v ∧ w ≠ 0 ∧ c = 1) := fun w c h => .inl (by rw [← hH0]; exact h)
      have f0 := cells_facts g2
      simp only [go_sem, reduceCtorEq, Nat.reduceAdd, Nat.reduceMul, Nat.reduceLeDiff, Nat.reduceLT, Int.reduceLE, Int.reduceLT, Int.reduceEq, Nat.reduceBEq, Nat.reduceEqDiff, hct, b0, hs1, hs0, f0.1, f0.2.1, f0.2.2]
    case' neg =>
      have b0 : (t.v != 0) = true := by simp [hv]
      rw [hct] at hs1 f e0
      cases hc : gmGet H t.v
    case' neg.some =>
      rename_i c
      obtain ⟨q1, q2⟩ := hz (by rw [hc]; simp) hv
      rw [q1] at mg
      simp only [i64V] at mg
      simp only [go_sem, reduceCtorEq, Nat.reduceAdd, Nat.reduceMul, Nat.reduceLeDiff, Nat.reduceLT, Int.reduceLE, Int.reduceLT, Int.reduceEq, Nat.reduceBEq, Nat.reduceEqDiff, hct, b0, hs1, f.1, f.2.1, f.2.2, mg]
      exact hf q2 s1 H ⟨hG1, eh, fun w c h => .inl h⟩
    case' neg.none =>
      rw [hc] at mg
      have hsp := gm_put i64V H t.v 1
      have hpg := gmGet_put H t.v 1
      obtain ⟨H0, hH0⟩ : ∃ H0, gmPut H t.v 1 = H0 := ⟨_, rfl⟩
      rw [hH0] at hsp hpg
      simp only [i64V] at hsp
      have hw1 : IntKind.i64.wrap (0 + 1) = 1 := rfl
      obtain ⟨s0, hs0⟩ : ∃ s0, s1.set hid (.map (mapPut (gmEs i64V H) (.int .i64 t.v) (.sc (.int .i64 1)))) = s0 := ⟨_, rfl⟩
      have g1 : Gx hid st s0 := by rw [← hs0]; exact hG1.set (.inr rfl) _
      have g2 : s0[st.length]? = some (.cells [.sc (.int .i64 t.v), .sc (.string t.name), .slice .imm 3 (t.args.map tySV)]) := by rw [← hs0, List.getElem?_set_ne (by omega)]; exact e0
      have g3 : s0[hid]? = some (.map (gmEs i64V H0)) := by rw [← hs0, List.getElem?_set_self (lt_of_get eh), ← hsp]
      have g4 : ∀ w c, gmGet H0 w = some c → gmGet H w = some c ∨ (w = t.v ∧ w ≠ 0 ∧ c = 1) := fun w c h => by
        rw [hpg] at h
        simp only at h
        split at h
        · rename_i e
          exact .inr ⟨e, by rw [e]; exact hv, by cases h; rfl⟩
        · exact .inl h
      have f0 := cells_facts g2
      simp only [go_sem, reduceCtorEq, Nat.reduceAdd, Nat.reduceMul, Nat.reduceLeDiff, Nat.reduceLT, Int.reduceLE, Int.reduceLT, Int.reduceEq, Nat.reduceBEq, Nat.reduceEqDiff, hct, b0, hs1, f.1, f.2.1, f.2.2, mg, mp, hw1, hs0, f0.1, f0.2.1, f0.2.2]
    all_goals
      have hl := look_c (g1.tst hT hi1 hi2) hE hG hg
      rw [← hu, tySV_eq t] at hl
      unfold ACallsH; simp only [put_some, put_none', ev_tmp, List.set_cons_succ, List.set_cons_zero, List.getD_cons_succ, List.getD_cons_zero]
      refine hl _ ?_
      have f0 := cells_facts g2
      obtain ⟨s2, hs2⟩ : ∃ s2, s0.set st.length (.cells [.sc (.int .i64 u.v), .sc (.string u.name), .slice .imm 3 (u.args.map tySV)]) = s2 := ⟨_, rfl⟩
      have k2 : s2[st.length]? = some (.cells [.sc (.int .i64 u.v), .sc (.string u.name), .slice .imm 3 (u.args.map tySV)]) := by rw [← hs2]; exact List.getElem?_set_self (lt_of_get g2)
      have k3 : s2[hid]? = some (.map (gmEs i64V H0)) := by rw [← hs2, List.getElem?_set_ne (by omega)]; exact g3
      have k1 : Gx hid st s2 := by rw [← hs2]; exact g1.set (.inl (Nat.le_refl _)) _
      have f2 := cells_facts k2
      have hdl : List.drop 3 [SV.sc (.int .i64 t.v), .sc (.string t.name), .slice .imm 3 (t.args.map tySV)] = [] := rfl
      simp only [go_sem, reduceCtorEq, Nat.reduceAdd, Nat.reduceMul, Nat.reduceLeDiff, Nat.reduceLT, Int.reduceLE, Int.reduceLT, Int.reduceEq, Nat.reduceBEq, Nat.reduceEqDiff, f0.1, f0.2.1, f0.2.2, hcu, hdl, List.append_nil, hs2, f2.1, f2.2.1, f2.2.2]
      have hTv : T.v = u.v := by rw [htree]; rfl
      by_cases huv : u.v = v
      · have b1 : (u.v == v) = true := by simp [huv]
        simp only [b1, go_sem, reduceCtorEq, Nat.reduceAdd, Nat.reduceMul, Nat.reduceLeDiff, Nat.reduceLT, Int.reduceLE, Int.reduceLT, Int.reduceEq, Nat.reduceBEq, Nat.reduceEqDiff]
        exact ht (by rw [vs_var (by rw [hTv, huv]; exact hv0), hTv, huv]; simp) s2 H0 k1 k3
      · have b1 : (u.v == v) = false := by simp [huv]
        simp only [b1, go_sem, reduceCtorEq, Nat.reduceAdd, Nat.reduceMul, Nat.reduceLeDiff, Nat.reduceLT, Int.reduceLE, Int.reduceLT, Int.reduceEq, Nat.reduceBEq, Nat.reduceEqDiff]
        refine anyf_c 56 _ Tryd.abody56 u.args (by have := nd_eq u; have := len_nd u.args; omega) (fun k s => ∃ H', Gx hid st s ∧ s[hid]? = some (.map (gmEs i64V H')) ∧
          (∀ w c, gmGet H' w = some c → gmGet H w = some c ∨ (w = t.v ∧ w ≠ 0 ∧ c = 1) ∨ (w ≠ 0 ∧ c = 1 ∧ v ∉ vsT (AP (gmGet M) (.mk w ⟨#[]⟩ [])))) ∧ ∀ a ∈ u.args.take k, v ∉ vsT (AP (gmGet M) a))
          (fun s => ∃ H', Gx hid st s ∧ s[hid]? = some (.map (gmEs i64V H')) ∧ v ∈ vsT T) _ _ ⟨H0, k1, k3, fun w c h => (g4 w c h).imp (fun h => h) .inl, fun a ha => by cases ha⟩ ?_ ?_ ?_
        · rintro k s hlt ⟨H', j1, j2, j3, j4⟩ K' hK1 hK2
          obtain ⟨a, had⟩ : ∃ a, a = u.args.getD k default := ⟨_, rfl⟩
          rw [← had]
          have ham : a ∈ u.args := by rw [had]; simp [List.getD_eq_getElem?_getD, hlt]
          have hga := hargs a ham
          have hmem : AP (gmGet M) a ∈ T.args := by rw [hTa]; exact List.mem_map_of_mem ham
          have hdm := dp_mem hmem
          have hnm := nd_mem hmem
          have hdt := dp_eq T
          have hnt := nd_eq T
          have hna := nd_mem ham
          have hnu := nd_eq u
          have hrec := fun K h1 h2 => ih a hga (by omega) (by omega) H' K s (j1.tst hT hi1 hi2) j2 (fun w c h => (by
            rcases j3 w c h with q | ⟨q1, q2, q3⟩ | ⟨q1, q2, q3⟩
            · obtain ⟨y1, y2, y3⟩ := hI w c q
              exact ⟨y1, y2, y3.imp (fun h => h) fun h => by omega⟩
            · subst q1
              refine ⟨q2, q3, .inr ?_⟩
              rw [← gd_var hg q2, ← hTd]
              omega
            · exact ⟨q1, q2, .inl q3⟩)) h1 h2
          refine acalls_go (M := []) Tryd.func56 rfl Tryd.results56 Tryd.ntmps56 ?_
          simp only [go_sem, reduceCtorEq, Nat.reduceAdd, Nat.reduceMul, Nat.reduceLeDiff, Nat.reduceLT, Int.reduceLE, Int.reduceLT, Int.reduceEq, Nat.reduceBEq, Nat.reduceEqDiff]
          refine hrec _ (fun hnv s' H2 hIE => ?_) (fun hmv s' H2 q1 q2 => ?_)
          · simp only [go_sem, reduceCtorEq, Nat.reduceAdd, Nat.reduceMul, Nat.reduceLeDiff, Nat.reduceLT, Int.reduceLE, Int.reduceLT, Int.reduceEq, Nat.reduceBEq, Nat.reduceEqDiff]
            refine hK1 s' ⟨H2, j1.trans hIE.gx, hIE.at', fun w c h => ?_, fun a' ha' => ?_⟩
            · rcases hIE.new w c h with q | q
              · exact j3 w c q
              · exact .inr (.inr q)
            · rw [take_snocT _ hlt, ← had, List.mem_append, List.mem_singleton] at ha'
              rcases ha' with q | q
              · exact j4 a' q
              · rw [q]; exact hnv
          · simp only [go_sem, reduceCtorEq, Nat.reduceAdd, Nat.reduceMul, Nat.reduceLeDiff, Nat.reduceLT, Int.reduceLE, Int.reduceLT, Int.reduceEq, Nat.reduceBEq, Nat.reduceEqDiff]
            refine hK2 s' ⟨H2, j1.trans q1, q2, ?_⟩
            have hu0 : u.v = 0 := by
              by_cases q : u.v = 0
              · exact q
              · have := gd_var hlsp.1 q
                rw [this] at ham
                cases ham
            rw [vs_con (by rw [hTv]; exact hu0), mem_vsL]
            exact ⟨_, hmem, hmv⟩
        · rintro s ⟨H', j1, j2, j3, j4⟩
          rw [List.take_length] at j4
          have hnv : v ∉ vsT T := fun hm => by
            by_cases hu0 : u.v = 0
            · rw [vs_con (by rw [hTv]; exact hu0), mem_vsL] at hm
              obtain ⟨x, hx, hvx⟩ := hm
              rw [hTa] at hx
              obtain ⟨a, ha, rfl⟩ := List.mem_map.1 hx
              exact j4 a ha hvx
            · rw [vs_var (by rw [hTv]; exact hu0), hTv, List.mem_singleton] at hm
              exact huv hm.symm
          simp only [go_sem, reduceCtorEq, Nat.reduceAdd, Nat.reduceMul, Nat.reduceLeDiff, Nat.reduceLT, Int.reduceLE, Int.reduceLT, Int.reduceEq, Nat.reduceBEq, Nat.reduceEqDiff]
          refine hf hnv s H' ⟨j1, j2, fun w c h => ?_⟩
          rcases j3 w c h with q | ⟨q1, q2, q3⟩ | q
          · exact .inl q
          · subst q1
            refine .inr ⟨q2, q3, ?_⟩
            rw [← gd_var hg q2, ← hTd]
            exact hnv
          · exact .inr q
        · rintro s ⟨H', j1, j2, j3⟩
          simp only [go_sem, reduceCtorEq, Nat.reduceAdd, Nat.reduceMul, Nat.reduceLeDiff, Nat.reduceLT, Int.reduceLE, Int.reduceLT, Int.reduceEq, Nat.reduceBEq, Nat.reduceEqDiff]
          exact ht j3 s H' j1 j2

end Go.Proofs
set_option linter.unusedSimpArgs false
set_option linter.unusedVariables false
set_option maxRecDepth 8000
namespace Go.Proofs
open Go Go.AL

theorem Tryd.amap62 : aMap Tryd.prog 62 = some (75, .array 2 3, 3) := by kernel_rfl
theorem Tryd.wide75 : wideT Tryd.prog 75 = true := by kernel_rfl
theorem Tryd.und75 : Tryd.prog.underlying 75 = some (.array 2 3) := by kernel_rfl
theorem Tryd.und3 : Tryd.prog.underlying 3 = some (.int .i64) := by kernel_rfl
theorem Tryd.kt75 : Tryd.prog.keyType 75 = true := by kernel_rfl
theorem Tryd.co75 : Tryd.prog.cellsOf 75 = 2 := by kernel_rfl
theorem Tryd.co3 : Tryd.prog.cellsOf 3 = 1 := by kernel_rfl
theorem Tryd.lit3 (d : Nat) (x : Int) (h : -1000000 ≤ x ∧ x ≤ 1000000) : Tryd.prog.keyLits (d + 1) 3 [.int .i64 x] = some [.int .i64 x] := by
  have hw : (Lit.int .i64 x).wf = true := by
    have h1 : IntKind.i64.min = -9223372036854775808 := by decide
    have h2 : IntKind.i64.max = 9223372036854775807 := by decide
    simp only [Lit.wf, h1, h2, Bool.and_eq_true, decide_eq_true_eq]
    omega
  unfold Program.keyLits
  rw [Tryd.und3]
  simp [hw]
theorem Tryd.key75 (x y : Int) (hx : -1000000 ≤ x ∧ x ≤ 1000000) (hy : -1000000 ≤ y ∧ y ≤ 1000000) : (Go.keyOf Tryd.prog 75 (.agg #[.int .i64 x, .int .i64 y])).isSome = true := by
  unfold Go.keyOf
  rw [Tryd.und75]
  have hf : Value.formed Tryd.prog 75 (.agg #[.int .i64 x, .int .i64 y]) = true := by
    unfold Value.formed
    simp only [Tryd.und75, Tryd.co75]
    rfl
  have hs : ∃ k, Tryd.prog.types.size = k + 1 := ⟨Tryd.prog.types.size - 1, by have : 0 < Tryd.prog.types.size := of_decide_eq_true (by kernel_rfl); omega⟩
  obtain ⟨k, hk⟩ := hs
  simp only [Tryd.kt75, hf, Bool.and_self, if_true, Option.isSome_map]
  have hc : (Value.agg #[Value.int .i64 x, .int .i64 y]).cells.toList = [.int .i64 x, .int .i64 y] := rfl
  rw [hc, hk]
  unfold Program.keyLits
  rw [Tryd.und75]
  simp only [Tryd.co75, Tryd.co3, List.length_cons, List.length_nil, if_true]
  have h2 : List.range 2 = [0, 1] := rfl
  rw [h2]
  simp [Tryd.lit3 _ x hx, Tryd.lit3 _ y hy]

def pkV (k : Int × Int) : Value := .agg #[.int .i64 k.1, .int .i64 k.2]
def Rg (k : Int × Int) : Prop := (-1000000 ≤ k.1 ∧ k.1 ≤ 1000000) ∧ (-1000000 ≤ k.2 ∧ k.2 ≤ 1000000)
theorem good_pk {k : Int × Int} (h : Rg k) : keyGood Tryd.prog 75 (.array 2 3) (pkV k) = true := by
  unfold keyGood
  rw [Tryd.wide75]
  unfold pkV
  rw [Tryd.key75 _ _ h.1 h.2]
  simp
theorem pk_inj {a b : Int × Int} (h : pkV a = pkV b) : a = b := by
  unfold pkV at h
  simp only [Value.agg.injEq] at h
  have h2 := congrArg Array.toList h
  simp only [List.cons.injEq, Value.int.injEq, and_true, true_and] at h2
  exact Prod.ext h2.1 h2.2
theorem eq_pk {a b : Int × Int} (ha : Rg a) (hb : Rg b) : keyEq (pkV a) (pkV b) = decide (a = b) := by
  rw [Bool.eq_iff_iff, keyEq_iff Tryd.und75 (good_pk ha) (good_pk hb), decide_eq_true_eq]
  exact ⟨pk_inj, fun h => by rw [h]⟩

/-- A set of pairs as a map. -/
def qEs (Q : List (Int × Int)) (z : Int) : List (Value × SV) := Q.map fun k => (pkV k, i64V z)
theorem q_all {Q : List (Int × Int)} (h : ∀ k ∈ Q, Rg k) (z : Int) : (qEs Q z).all (fun p => keyGood Tryd.prog 75 (.array 2 3) p.1) = true := by
  rw [List.all_eq_true]
  intro p hp
  obtain ⟨k, hk, rfl⟩ := List.mem_map.1 hp
  exact good_pk (h k hk)
theorem q_idx {Q : List (Int × Int)} (h : ∀ k ∈ Q, Rg k) {k : Int × Int} (hk : Rg k) (z : Int) (l : List (Value × SV)) : keyIdx (qEs Q z ++ l) (pkV k) = match Q.findIdx? (fun p => decide (k = p)) with | some j => some j | none => (keyIdx l (pkV k)).map (· + Q.length) := by
  induction Q with
  | nil => simp only [qEs, List.map_nil, List.nil_append, List.findIdx?_nil, List.length_nil, Nat.add_zero]; cases keyIdx l (pkV k) <;> rfl
  | cons p r ih =>
    have ih := ih (fun q hq => h q (by simp [hq]))
    show keyIdx ((pkV p, i64V z) :: (qEs r z ++ l)) (pkV k) = _
    unfold keyIdx at ih ⊢
    rw [List.findIdx?_cons, List.findIdx?_cons]
    simp only [eq_pk hk (h p (by simp))]
    by_cases e : k = p
    · simp [e]
    · simp only [e, decide_false, Bool.false_eq_true, if_false]
      rw [ih]
      cases r.findIdx? (fun p => decide (k = p)) with
      | some j => rfl
      | none =>
        simp only [Option.map_none, Option.map_map, List.length_cons]
        cases l.findIdx? (fun p => keyEq (pkV k) p.1) <;> simp
        omega
theorem q_find {Q : List (Int × Int)} {k : Int × Int} : (k ∈ Q ∧ ∃ j, Q.findIdx? (fun p => decide (k = p)) = some j ∧ j < Q.length) ∨ (k ∉ Q ∧ Q.findIdx? (fun p => decide (k = p)) = none) := by
  by_cases e : k ∈ Q
  · refine .inl ⟨e, ?_⟩
    cases h : Q.findIdx? (fun p => decide (k = p)) with
    | none =>
      rw [List.findIdx?_eq_none_iff] at h
      have := h k e
      simp at this
    | some j =>
      refine ⟨j, rfl, ?_⟩
      rw [List.findIdx?_eq_some_iff_getElem] at h
      exact h.1
  · refine .inr ⟨e, ?_⟩
    rw [List.findIdx?_eq_none_iff]
    intro x hx
    simp only [decide_eq_false_iff_not]
    rintro rfl
    exact e hx
theorem q_getD {Q : List (Int × Int)} {j : Nat} (h : j < Q.length) (z : Int) (l : List (Value × SV)) : ((qEs Q z ++ l).getD j (default, .any)).2 = i64V z := by
  rw [List.getD_eq_getElem?_getD, List.getElem?_append_left (by simp [qEs]; exact h)]
  simp [qEs, h]

/-- What is looked up in a set of pairs. -/
theorem q_get {st : St} {id : Nat} {Q : List (Int × Int)} (hQ : ∀ k ∈ Q, Rg k) {x y : Int} (hk : Rg (x, y)) (h : st[id]? = some (.map (qEs Q 1))) :
    mapGet Tryd.prog 62 st (.mp id) (.agg [.sc (.int .i64 x), .sc (.int .i64 y)]) = some (.sc (.int .i64 (if (x, y) ∈ Q then 1 else 0)), decide ((x, y) ∈ Q)) := by
  have hko : AL.keyOf (.agg [.sc (.int .i64 x), .sc (.int .i64 y)]) = some (pkV (x, y)) := rfl
  have hi := q_idx hQ hk 1 []
  rw [List.append_nil] at hi
  simp only [mapGet, hko, Tryd.amap62, mapAt_eq h, Tryd.zeroSV3, good_pk hk, q_all hQ, Bool.and_self, if_true, hi]
  rcases q_find (Q := Q) (k := (x, y)) with ⟨h1, j, h2, h3⟩ | ⟨h1, h2⟩
  · have := q_getD h3 1 []
    rw [List.append_nil] at this
    simp only [h2, h1, if_true, decide_true, this, i64V]
  · simp only [h2, h1, if_false, decide_false, keyIdx, List.findIdx?_nil, Option.map_none]

def qE0 (Q : List (Int × Int)) (k : Int × Int) : List (Value × SV) := qEs Q 1 ++ [(pkV k, i64V 0)]

/-- The same, where the pair stands there as nought. -/
theorem q_get0 {st : St} {id : Nat} {Q : List (Int × Int)} (hQ : ∀ k ∈ Q, Rg k) {x y : Int} (hk : Rg (x, y)) (hn : (x, y) ∉ Q) (h : st[id]? = some (.map (qE0 Q (x, y)))) :
    mapGet Tryd.prog 62 st (.mp id) (.agg [.sc (.int .i64 x), .sc (.int .i64 y)]) = some (.sc (.int .i64 0), true) := by
  have hko : AL.keyOf (.agg [.sc (.int .i64 x), .sc (.int .i64 y)]) = some (pkV (x, y)) := rfl
  have hi : keyIdx (qE0 Q (x, y)) (pkV (x, y)) = some Q.length := by
    unfold qE0
    rw [q_idx hQ hk]
    rcases q_find (Q := Q) (k := (x, y)) with ⟨h1, _⟩ | ⟨h1, h2⟩
    · exact absurd h1 hn
    · simp [h2, keyIdx, eq_pk hk hk]
  have hal : (qE0 Q (x, y)).all (fun p => keyGood Tryd.prog 75 (.array 2 3) p.1) = true := by
    unfold qE0
    rw [List.all_append, q_all hQ]
    simp [good_pk hk]
  have hgd : ((qE0 Q (x, y)).getD Q.length (default, .any)).2 = .sc (.int .i64 0) := by
    unfold qE0
    rw [List.getD_eq_getElem?_getD, List.getElem?_append_right (by simp [qEs])]
    simp [qEs, i64V]
  simp only [mapGet, hko, Tryd.amap62, mapAt_eq h, Tryd.zeroSV3, good_pk hk, hal, Bool.and_self, if_true, hi, hgd]

theorem q_entry {st : St} {id : Nat} {Q : List (Int × Int)} (hQ : ∀ k ∈ Q, Rg k) {x y : Int} (hk : Rg (x, y)) (hn : (x, y) ∉ Q) (h : st[id]? = some (.map (qEs Q 1))) (K : SV → St → Prop) :
    entrySpec Tryd.prog 62 st (.mp id) (.agg [.sc (.int .i64 x), .sc (.int .i64 y)]) K = K (.tuple [.sc (.int .i64 0), .stamp id Q.length]) (st.set id (.map (qE0 Q (x, y)))) := by
  have hko : AL.keyOf (.agg [.sc (.int .i64 x), .sc (.int .i64 y)]) = some (pkV (x, y)) := rfl
  have hi := q_idx hQ hk 1 []
  rw [List.append_nil] at hi
  have hl : (qEs Q 1).length = Q.length := by simp [qEs]
  rcases q_find (Q := Q) (k := (x, y)) with ⟨h1, _⟩ | ⟨h1, h2⟩
  · exact absurd h1 hn
  · rw [h2] at hi
    have hi2 : keyIdx (qEs Q 1) (pkV (x, y)) = none := by rw [hi]; rfl
    have hmo : mapOk Tryd.prog 62 st (.mp id) (.agg [.sc (.int .i64 x), .sc (.int .i64 y)]) = some (id, qEs Q 1, pkV (x, y), 3) := by
      simp only [mapOk, hko, Tryd.amap62, mapAt_eq h, good_pk hk, q_all hQ, Bool.and_self, if_true]
    simp only [entrySpec, hmo, Tryd.zeroSV3, hi2, hl]
    rfl

theorem q_stamp {st : St} {id : Nat} {Q : List (Int × Int)} {k : Int × Int} (h : st[id]? = some (.map (qE0 Q k))) (K : St → Prop) (hK : K (st.set id (.map (qEs (Q ++ [k]) 1)))) : stampSpec st (.sc (.int .i64 1)) (.mp id) (.stamp id Q.length) K := by
  simp only [stampSpec, mapAt_eq h]
  refine ⟨trivial, by simp [qE0, qEs], ?_⟩
  have : (qE0 Q k).set Q.length (((qE0 Q k).getD Q.length (default, .any)).1, .sc (.int .i64 1)) = qEs (Q ++ [k]) 1 := by
    have hl : (qEs Q 1).length = Q.length := by simp [qEs]
    unfold qE0
    rw [List.getD_eq_getElem?_getD, List.getElem?_append_right (by omega), hl]
    rw [List.set_append_right _ _ (by omega), hl]
    simp [qEs, i64V]
  rw [this]
  exact hK

end Go.Proofs
