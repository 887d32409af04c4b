/- The document: the variables of a type (F53). -/
import Derived.Test.YteclbnjpijakbaaDoorM9
set_option linter.unusedSimpArgs false
set_option linter.unusedVariables false
set_option maxRecDepth 8000
namespace Go.Proofs
open Go Go.AL

noncomputable def body53 : Code := (((Tryd.prog.funcs[53]?).bind (·.body)).getD .skip)
theorem body53_eq {fn : Func} {c : Code} (hf : Tryd.prog.funcs[53]? = some fn) (hb : fn.body = some c) : body53 = c := by
  unfold body53; rw [hf]; simp [hb]
noncomputable def rest53 : Code := tlC body53
theorem body53_shape : body53 = .seq (hdC body53) rest53 := by
  have hb := body53_eq Tryd.func53 rfl
  unfold rest53
  rw [hb]; rfl
def fr53 (v : SV) (p : Nat) : List SV := [.any, v, .ptr p 0, .any, .any, .any, .any, .any, .any, .any, .any, .any, .any, .any, .any, .any, .any, .any, .any, .any, .any, .any, .any, .any, .any, .any, .any, .any, .any, .any, .any, .any, .any, .any, .any, .any, .any, .any, .any, .any, .any, .any, .any, .any]

set_option maxHeartbeats 4000000 in
theorem rest53_c {t : Ty} (hg : gd t = true) {l : List Int} {tid p : Nat} {s : St} (hl : l.length + nd t ≤ 100000)
    (ih : ∀ a ∈ t.args, ∀ (l : List Int) (K : SV → St → Prop) (s1 : St), l.length + nd a ≤ 100000 → s1[tid]? = some (.tok l.length) → (∀ s', Gs [tid] s1 s' → s'[tid]? = some (.tok (vsS a l).length) → K (.slice (.own tid (vsS a l).length) 1 ((vsS a l).map i64V)) s') → ACalls Tryd.prog 53 [tySV a, .slice (.own tid l.length) 1 (l.map i64V)] K s1)
    (hk : s[tid]? = some (.tok l.length)) (e0 : s[p]? = some (.cells [.sc (.int .i64 t.v), .sc (.string t.name), .slice .imm 3 (t.args.map tySV)])) (K : SV → St → Prop)
    (h : ∀ s', Gs [tid] s s' → s'[tid]? = some (.tok (vsS t l).length) → K (.slice (.own tid (vsS t l).length) 1 ((vsS t l).map i64V)) s') :
    AWp Tryd.prog rest53 (RetR Tryd.prog #[ResultVar.tmp 4].toList K) (fr53 (.slice (.own tid l.length) 1 (l.map i64V)) p) s := by
  have hb' := body53_eq Tryd.func53 rfl
  have hr : rest53 = _ := congrArg tlC hb'
  simp only [tlC] at hr
  rw [hr]
  clear hr hb'
  unfold fr53
  refine awp_c (M := []) ?_
  have f := cells_facts e0
  have ft := fun v' => tokAt_eq (v' := v') hk
  by_cases hv : t.v = 0
  · have c0 : (t.v != 0) = false := by simp [hv]
    have hvs : vsS t l = vsSL t.args l := by rw [vsS_eq, if_pos hv]
    rw [hvs] at h
    have hal : t.args.length ≤ 100000 := by have := nd_eq t; have := len_nd t.args; omega
    simp only [go_sem, reduceCtorEq, Nat.reduceAdd, Nat.reduceMul, Nat.reduceLeDiff, Nat.reduceLT, Int.reduceLE, Int.reduceLT, Int.reduceEq, Nat.reduceBEq, Nat.reduceEqDiff, f.1, f.2.1, f.2.2, c0]
    refine awp_rounds [] (fun m e s1 => ∃ (k : Nat) (l1 : List Int), m + k = t.args.length ∧ l1 = vsSL (t.args.take k) l ∧ Gs [tid] s s1 ∧ s1[tid]? = some (.tok l1.length) ∧ s1[p]? = s[p]? ∧
      e = [.any, .slice (.own tid l1.length) 1 (l1.map i64V), .ptr p 0, .any, .any, .any, .sc (.int .i64 k), .any, .any, .any, .any, .any, .any, .any, .any, .any, .any, .any, .any, .any, .any, .any, .any, .any, .any, .any, .any, .any, .any, .any, .any, .any, .any, .any, .any, .any, .any, .any, .any, .any, .any, .any, .any, .any]) (n := t.args.length) ?_ ⟨0, l, by omega, rfl, Gs.refl _ s, hk, rfl, rfl⟩ ?_
    · repeat (first | exact leEnv_nil | refine leEnv_any _ ?_ | refine leEnv_same _ ?_ | refine leEnv_norm _ ?_)
    rintro m e s1 ⟨k, l1, hmk, hl1, hG, hk1, hp1, rfl⟩
    have f1 := cells_facts (hp1.trans e0)
    by_cases hlt : k < t.args.length
    · have c1 : (k : Int) < (t.args.length : Int) := by omega
      have c2 : (0 : Int) ≤ (k : Int) := by omega
      have hw := wrapS k (by omega)
      obtain ⟨a, had⟩ : ∃ a, a = t.args.getD k default := ⟨_, rfl⟩
      have hgk : (t.args.map tySV).getD k .any = tySV a := by rw [had]; exact getD_mapT _ hlt
      have ham : a ∈ t.args := by rw [had]; simp [List.getD_eq_getElem?_getD, hlt]
      have htk : t.args.take (k + 1) = t.args.take k ++ [a] := by rw [take_snocT _ hlt, ← had]
      have hl1len : l1.length + nd a ≤ 100000 := by
        have e1 : l1.length ≤ l.length + ndL (t.args.take k) := by
          rw [hl1]
          have : ∀ (r : List Ty) (l : List Int), (vsSL r l).length ≤ l.length + ndL r := by
            intro r
            induction r with
            | nil => intro l; simp [vsSL, ndL]
            | cons a r ihr => intro l; rw [vsSL, ndL]; have := vsS_len a l; have := ihr (vsS a l); omega
          exact this _ _
        have e2 : ndL (t.args.take k) + nd a ≤ ndL t.args := by
          have : ndL t.args = ndL (t.args.take (k + 1)) + ndL (t.args.drop (k + 1)) := by rw [← ndL_app, List.take_append_drop]
          rw [this, htk, ndL_app]
          simp only [ndL]
          omega
        have := nd_eq t
        omega
      have htp : tid ≠ p := by
        rintro rfl
        have := hk.symm.trans e0
        cases this
      have hrec := fun K h => ih a ham l1 K s1 hl1len hk1 h
      simp only [go_sem, reduceCtorEq, Nat.reduceAdd, Nat.reduceMul, Nat.reduceLeDiff, Nat.reduceLT, Int.reduceLE, Int.reduceLT, Int.reduceEq, Nat.reduceBEq, Nat.reduceEqDiff, c1, c2, hgk, f1.1, f1.2.1, f1.2.2]
      refine hrec _ (fun s' hG3 hk3 => ?_)
      simp only [go_sem, reduceCtorEq, Nat.reduceAdd, Nat.reduceMul, Nat.reduceLeDiff, Nat.reduceLT, Int.reduceLE, Int.reduceLT, Int.reduceEq, Nat.reduceBEq, Nat.reduceEqDiff, hw]
      refine ⟨m - 1, _, by omega, ?_, k + 1, vsS a l1, by omega, by rw [htk, vsSL_app, ← hl1]; rfl, hG.trans hG3, hk3, ?_, rfl⟩
      · repeat (first | exact leEnv_nil | refine leEnv_any _ ?_ | refine leEnv_same _ ?_ | refine leEnv_norm _ ?_)
      · rw [hG3.same p (by have := lt_of_get (hp1.trans e0); omega) (by simp; exact fun q => htp q.symm)]; exact hp1
    · obtain rfl : k = t.args.length := by omega
      rw [List.take_length] at hl1
      rw [← hl1] at h
      simp only [go_sem, reduceCtorEq, Nat.reduceAdd, Nat.reduceMul, Nat.reduceLeDiff, Nat.reduceLT, Int.reduceLE, Int.reduceLT, Int.reduceEq, Nat.reduceBEq, Nat.reduceEqDiff, Int.lt_irrefl, f1.1, f1.2.1, f1.2.2]
      exact h s1 hG hk1
  · have c0 : (t.v != 0) = true := by simp [hv]
    simp only [go_sem, reduceCtorEq, Nat.reduceAdd, Nat.reduceMul, Nat.reduceLeDiff, Nat.reduceLT, Int.reduceLE, Int.reduceLT, Int.reduceEq, Nat.reduceBEq, Nat.reduceEqDiff, f.1, f.2.1, f.2.2, c0]
    refine awp_rounds [] (fun m e s1 => ∃ k : Nat, m + k = l.length ∧ s1 = s ∧ (∀ j, j < k → l.getD j 0 ≠ t.v) ∧
      e = [.any, .slice (.own tid l.length) 1 (l.map i64V), .ptr p 0, .any, .any, .sc (.int .i64 k), .any, .any, .any, .any, .any, .any, .any, .any, .any, .any, .any, .any, .any, .any, .any, .any, .any, .any, .any, .any, .any, .any, .any, .any, .any, .any, .any, .any, .any, .any, .any, .any, .any, .any, .any, .any, .any, .any]) (n := l.length) ?_ ⟨0, by omega, rfl, fun j hj => by omega, rfl⟩ ?_
    · repeat (first | exact leEnv_nil | refine leEnv_any _ ?_ | refine leEnv_same _ ?_ | refine leEnv_norm _ ?_)
    rintro m e s1 ⟨k, hmk, rfl, hno, rfl⟩
    by_cases hlt : k < l.length
    · have c1 : (k : Int) < (l.length : Int) := by omega
      have c2 : (0 : Int) ≤ (k : Int) := by omega
      have hw := wrapS k (by omega)
      by_cases hx : l.getD k 0 = t.v
      · have c3 : (l.getD k 0 == t.v) = true := by rw [hx]; exact beq_self_eq_true _
        have hm : t.v ∈ l := by rw [← hx]; simp [List.getD_eq_getElem?_getD, hlt]
        have hvs : vsS t l = l := by rw [vsS_eq, if_neg hv, if_pos hm]
        rw [hvs] at h
        simp only [go_sem, reduceCtorEq, Nat.reduceAdd, Nat.reduceMul, Nat.reduceLeDiff, Nat.reduceLT, Int.reduceLE, Int.reduceLT, Int.reduceEq, Nat.reduceBEq, Nat.reduceEqDiff, c1]
        refine awp_draw [] Tryd.mixed rfl ?_
        simp only [go_sem, reduceCtorEq, Nat.reduceAdd, Nat.reduceMul, Nat.reduceLeDiff, Nat.reduceLT, Int.reduceLE, Int.reduceLT, Int.reduceEq, Nat.reduceBEq, Nat.reduceEqDiff, f.1, f.2.1, f.2.2, c1, c2, getD_i64 hlt, i64V_eq, Int.toNat_natCast, c3]
        exact h _ (Gs.refl _ _) hk
      · have c3 : (l.getD k 0 == t.v) = false := beq_eq_false_iff_ne.2 hx
        simp only [go_sem, reduceCtorEq, Nat.reduceAdd, Nat.reduceMul, Nat.reduceLeDiff, Nat.reduceLT, Int.reduceLE, Int.reduceLT, Int.reduceEq, Nat.reduceBEq, Nat.reduceEqDiff, c1]
        refine awp_draw [] Tryd.mixed rfl ?_
        simp only [go_sem, reduceCtorEq, Nat.reduceAdd, Nat.reduceMul, Nat.reduceLeDiff, Nat.reduceLT, Int.reduceLE, Int.reduceLT, Int.reduceEq, Nat.reduceBEq, Nat.reduceEqDiff, f.1, f.2.1, f.2.2, c1, c2, getD_i64 hlt, i64V_eq, Int.toNat_natCast, c3, hw]
        refine ⟨m - 1, _, by omega, ?_, k + 1, by omega, fun j hj => ?_, rfl⟩
        · repeat (first | exact leEnv_nil | refine leEnv_any _ ?_ | refine leEnv_same _ ?_ | refine leEnv_norm _ ?_)
        · rcases Nat.lt_or_ge j k with q | q
          · exact hno j q
          · obtain rfl : j = k := by omega
            exact hx
    · obtain rfl : k = l.length := by omega
      have hm : t.v ∉ l := fun q => by
        obtain ⟨i, hi, e⟩ := List.mem_iff_getElem.1 q
        refine hno i hi ?_
        simp [List.getD_eq_getElem?_getD, hi, e]
      have hvs : vsS t l = l ++ [t.v] := by rw [vsS_eq, if_neg hv, if_neg hm]
      rw [hvs] at h
      have e1 : (l ++ [t.v]).length = l.length + 1 := by simp
      have e2 : (l ++ [t.v]).map i64V = l.map i64V ++ [.sc (.int .i64 t.v)] := by simp [i64V]
      rw [e1, e2] at h
      simp only [go_sem, reduceCtorEq, Nat.reduceAdd, Nat.reduceMul, Nat.reduceLeDiff, Nat.reduceLT, Int.reduceLE, Int.reduceLT, Int.reduceEq, Nat.reduceBEq, Nat.reduceEqDiff, Int.lt_irrefl, f.1, f.2.1, f.2.2, ft]
      exact ⟨app54 (by omega), h _ ((Gs.refl _ _).set (.inr (by simp)) _) (List.getElem?_set_self (lt_of_get hk))⟩

theorem rvars_c : ∀ (n : Nat) (t : Ty), nd t ≤ n → gd t = true → ∀ (l : List Int) (tid : Nat) (K : SV → St → Prop) (st : St), l.length + nd t ≤ 100000 → st[tid]? = some (.tok l.length) →
    (∀ s', Gs [tid] st s' → s'[tid]? = some (.tok (vsS t l).length) → K (.slice (.own tid (vsS t l).length) 1 ((vsS t l).map i64V)) s') → ACalls Tryd.prog 53 [tySV t, .slice (.own tid l.length) 1 (l.map i64V)] K st := by
  intro n
  induction n with
  | zero => intro t hn; have := nd_pos t; omega
  | succ n ih =>
    intro t hn hg l tid K st hl hk h
    refine acalls_goA (c := body53) Tryd.func53 (by rw [body53_eq Tryd.func53 rfl]; rfl) Tryd.results53 Tryd.ntmps53 ?_
    rw [body53_shape]
    have hca := cells_ty t
    obtain ⟨s1, hs1⟩ : ∃ s1, st ++ [Ob.cells (tySV t).cells] = s1 := ⟨_, rfl⟩
    have e0 : s1[st.length]? = some (.cells (tySV t).cells) := by rw [← hs1]; simp
    have hk1 : s1[tid]? = some (.tok l.length) := by rw [← hs1]; exact (List.getElem?_append_left (lt_of_get hk)).trans hk
    have hG1 : Gs [tid] st s1 := by rw [← hs1]; exact (Gs.refl _ st).app _
    rw [hca] at e0
    refine awp_seq (AWp.mono (Q := fun e env s => e = .normal ∧ LeEnv env (fr53 (.slice (.own tid l.length) 1 (l.map i64V)) st.length) ∧ s = s1) ?_ ?_)
    · rw [body53_eq Tryd.func53 rfl]
      simp only [hdC]
      refine awp_c (M := [2]) ?_
      unfold fr53
      simp only [go_sem, reduceCtorEq, Nat.reduceAdd, Nat.reduceMul, Nat.reduceLeDiff, Nat.reduceLT, Int.reduceLE, Int.reduceLT, Int.reduceEq, Nat.reduceBEq, Nat.reduceEqDiff, hs1]
      repeat (first | exact leEnv_nil | refine leEnv_any _ ?_ | refine leEnv_same _ ?_ | refine leEnv_norm _ ?_)
    rintro e env s ⟨rfl, hle, rfl⟩
    show AWp _ _ _ _ _
    refine awp_weaken hle ?_
    exact rest53_c hg hl (fun a ha l K s1 h1 h2 h3 => by
      have hv : t.v = 0 := by
        by_cases hv : t.v = 0
        · exact hv
        · rw [gd_var hg hv] at ha; cases ha
      exact ih a (by have := nd_mem ha; have := nd_eq t; omega) (gd_con hg hv a ha) l tid K s1 h1 h2 h3) hk1 e0 K fun s' h1 h2 => h s' (hG1.trans (h1.mono fun j hj => .inr hj)) h2

theorem rvars0_c (t : Ty) (hg : gd t = true) (hn : nd t ≤ 1000) (K : SV → St → Prop) (st : St) (h : K (.slice .imm 1 ((vsS t []).map i64V)) st) : ACalls Tryd.prog 53 [tySV t, .slice .full 0 []] K st := by
  refine acalls_pure ?_
  refine acalls_goA (c := body53) Tryd.func53 (by rw [body53_eq Tryd.func53 rfl]; rfl) Tryd.results53 Tryd.ntmps53 ?_
  rw [body53_shape]
  have hca := cells_ty t
  obtain ⟨s1, hs1⟩ : ∃ s1, st ++ [Ob.cells (tySV t).cells] = s1 := ⟨_, rfl⟩
  have e0 : s1[st.length]? = some (.cells (tySV t).cells) := by rw [← hs1]; simp
  have hG1 : Gs [] st s1 := by rw [← hs1]; exact (Gs.refl _ st).app _
  have hl1 : s1.length = st.length + 1 := by rw [← hs1]; simp
  rw [hca] at e0
  refine awp_seq (AWp.mono (Q := fun e env s => e = .normal ∧ LeEnv env (fr53 (.slice .full 0 []) st.length) ∧ s = s1) ?_ ?_)
  · rw [body53_eq Tryd.func53 rfl]
    simp only [hdC]
    refine awp_c (M := [2]) ?_
    unfold fr53
    simp only [go_sem, reduceCtorEq, Nat.reduceAdd, Nat.reduceMul, Nat.reduceLeDiff, Nat.reduceLT, Int.reduceLE, Int.reduceLT, Int.reduceEq, Nat.reduceBEq, Nat.reduceEqDiff, hs1]
    repeat (first | exact leEnv_nil | refine leEnv_any _ ?_ | refine leEnv_same _ ?_ | refine leEnv_norm _ ?_)
  rintro e env s ⟨rfl, hle, rfl⟩
  show AWp _ _ _ _ _
  refine awp_weaken hle (awp_own 1 1 0 rfl ?_)
  refine rest53_c (l := []) (tid := s.length) hg (by simp; omega) (fun a ha l K s1 h1 h2 h3 => ?_) (by simp) ((List.getElem?_append_left (lt_of_get e0)).trans e0) _ fun s' h1 h2 => ?_
  · have hv : t.v = 0 := by
      by_cases hv : t.v = 0
      · exact hv
      · rw [gd_var hg hv] at ha; cases ha
    exact rvars_c _ a (Nat.le_refl _) (gd_con hg hv a ha) l s.length K s1 h1 h2 h3
  · obtain ⟨ex, hex⟩ := Gs.ex ((hG1.app [.tok 0]).after h1 fun j hj => by simp at hj; subst hj; exact .inl (by omega))
    exact ⟨ex, hex, ids_i64 _ _, h⟩

end Go.Proofs
set_option linter.unusedSimpArgs false
set_option linter.unusedVariables false
set_option maxRecDepth 8000
namespace Go.Proofs
open Go Go.AL

theorem digits_c (K : SV → St → Prop) (st : St) (h : K (.sc (.string ⟨#[]⟩)) st) : ACalls Tryd.prog 57 [.sc (.int .i64 0)] K st := by
  refine acalls_go_pure [] Tryd.func57 rfl Tryd.results57 Tryd.ntmps57 ?_
  simp only [go_sem, reduceCtorEq, Nat.reduceAdd, Nat.reduceMul, Nat.reduceLeDiff, Nat.reduceLT, Int.reduceLE, Int.reduceLT, Int.reduceEq, Nat.reduceBEq, Nat.reduceEqDiff]
  refine awp_rounds [] (fun m e s1 => s1 = st ∧ e = [.sc (.int .i64 0), .any, .any, .sc (.string ⟨#[]⟩), .any, .any, .any, .any, .any, .any, .any, .any, .any, .any, .any, .any, .any]) (n := 0) ?_ ⟨rfl, rfl⟩ ?_
  · repeat (first | exact leEnv_nil | refine leEnv_any _ ?_ | refine leEnv_same _ ?_ | refine leEnv_norm _ ?_)
  rintro m e s1 ⟨rfl, rfl⟩
  simp only [go_sem, reduceCtorEq, Nat.reduceAdd, Nat.reduceMul, Nat.reduceLeDiff, Nat.reduceLT, Int.reduceLE, Int.reduceLT, Int.reduceEq, Nat.reduceBEq, Nat.reduceEqDiff, Int.lt_irrefl]
  exact fin_sc h

theorem Tryd.aint5 : aInt Tryd.prog 5 = some .u8 := by kernel_rfl
theorem Tryd.aint83 : aInt Tryd.prog 83 = none := by kernel_rfl
theorem Tryd.ael83 : (aElem Tryd.prog 83).bind (aInt Tryd.prog) = some .u8 := by kernel_rfl
theorem enc_let8 : ∀ k : Fin 26, bytesV [.sc (.int .u8 (IntKind.u8.wrap (97 + ((k.val : Nat) : Int))))] = txB (letB k.val) := by decide +kernel

theorem idx_le {v : Int} : ∀ {l : List Int} {k : Nat}, k < l.length → l.getD k 0 = v → l.idxOf v ≤ k
  | [], k, h, _ => by simp at h
  | a :: r, 0, _, e => by
    have e : a = v := e
    rw [List.idxOf_cons, e]
    simp
  | a :: r, k + 1, h, e => by
    rw [List.idxOf_cons]
    have := idx_le (l := r) (k := k) (by simpa using h) e
    by_cases c : (a == v) = true
    · rw [c]; simp
    · rw [Bool.eq_false_iff.2 c]; simp; omega
theorem idx_get {v : Int} : ∀ {l : List Int}, v ∈ l → l.getD (l.idxOf v) 0 = v
  | [], h => by cases h
  | a :: r, h => by
    rw [List.idxOf_cons]
    by_cases c : (a == v) = true
    · rw [c]; simpa using c
    · rw [Bool.eq_false_iff.2 c]
      have : v ∈ r := by
        rcases List.mem_cons.1 h with q | q
        · exact absurd (by simp [q]) c
        · exact q
      exact idx_get this

set_option maxHeartbeats 4000000 in
theorem written_c {L : List Int} (hL : L.length ≤ 26) : ∀ (n : Nat) (t : Ty), nd t ≤ n → nd t ≤ 1000 → tz t ≤ 100000 → gd t = true → (∀ v ∈ vsT t, v ∈ L) → ∀ (K : SV → St → Prop) (st : St),
    K (.sc (.string (txB (txT L t)))) st → ACalls Tryd.prog 52 [tySV t, .slice .imm 1 (L.map i64V)] K st := by
  intro n
  induction n with
  | zero => intro t hn; have := nd_pos t; omega
  | succ n ih =>
    intro t hn hn2 hz hg hvs K st h
    refine acalls_go_pure [2] Tryd.func52 rfl Tryd.results52 Tryd.ntmps52 ?_
    have hca := cells_ty t
    obtain ⟨s1, hs1⟩ : ∃ s1, st ++ [Ob.cells (tySV t).cells] = s1 := ⟨_, rfl⟩
    have e0 : s1[st.length]? = some (.cells (tySV t).cells) := by rw [← hs1]; simp
    have hG1 : Gs [] st s1 := by rw [← hs1]; exact (Gs.refl _ st).app _
    rw [hca] at e0 hs1
    have f := cells_facts e0
    by_cases hv : t.v = 0
    · have c0 : (t.v != 0) = false := by simp [hv]
      rw [txT_eq, if_pos hv, ← txB_app, txB_name] at h
      simp only [go_sem, reduceCtorEq, Nat.reduceAdd, Nat.reduceMul, Nat.reduceLeDiff, Nat.reduceLT, Int.reduceLE, Int.reduceLT, Int.reduceEq, Nat.reduceBEq, Nat.reduceEqDiff, hca, hs1, f.1, f.2.1, f.2.2, c0]
      refine awp_rounds [] (fun m e s => ∃ (k : Nat) (S : ByteArray), m + k = t.args.length ∧ S = t.name ++ txB (txL L (t.args.take k)) ∧ s = s1 ∧
        e = [.any, .slice .imm 1 (L.map i64V), .ptr st.length 0, .any, .any, .any, .sc (.string S), .sc (.int .i64 k), .any, .any, .any, .any, .any, .any, .any, .any, .any, .any, .any, .any, .any, .any, .any, .any, .any, .any, .any, .any, .any, .any, .any, .any, .any, .any, .any, .any, .any, .any, .any, .any, .any, .any, .any, .any, .any, .any, .any, .any, .any, .any, .any, .any, .any, .any, .any, .any, .any, .any, .any, .any, .any, .any, .any, .any, .any, .any, .any, .any, .any, .any]) (n := t.args.length) ?_ ⟨0, t.name, by omega, by rw [List.take_zero, txL]; exact (ByteArray.append_empty).symm, rfl, rfl⟩ ?_
      · repeat (first | exact leEnv_nil | refine leEnv_any _ ?_ | refine leEnv_same _ ?_ | refine leEnv_norm _ ?_)
      rintro m e s ⟨k, S, hmk, hS, rfl, rfl⟩
      by_cases hlt : k < t.args.length
      · have c1 : (k : Int) < (t.args.length : Int) := by omega
        have c2 : (0 : Int) ≤ (k : Int) := by omega
        have hnt := nd_eq t
        have hlna := len_nd t.args
        have hw := wrapS k (by omega)
        obtain ⟨a, had⟩ : ∃ a, a = t.args.getD k default := ⟨_, rfl⟩
        have hgk : (t.args.map tySV).getD k .any = tySV a := by rw [had]; exact getD_mapT _ hlt
        have ham : a ∈ t.args := by rw [had]; simp [List.getD_eq_getElem?_getD, hlt]
        have htk : t.args.take (k + 1) = t.args.take k ++ [a] := by rw [take_snocT _ hlt, ← had]
        have hna := nd_mem ham
        have hca2 := cells_ty a
        have hrec := fun K h => ih a (by omega) (by omega) (by have := tz_eq t; have := tz_mem ham; omega) (gd_con hg hv a ham) (fun v hva => hvs v (by rw [vs_con hv, mem_vsL]; exact ⟨a, ham, hva⟩)) K s h
        rw [tySV_eq a] at hrec
        have z1 : (txB (txT L a)).size + 3 ≤ tz a := by rw [txB_size]; exact tx_len L a
        have z2 : S.size ≤ 100000 := by
          rw [hS, ByteArray.size_append, txB_size]
          have h1 := txL_len L (t.args.take k)
          have h2 := txL_len L (t.args)
          have h3 : (txL L (t.args.take k)).length ≤ (txL L t.args).length := by
            conv => rhs; rw [← List.take_append_drop k t.args, txL_app, List.length_append]
            omega
          have := tz_eq t
          omega
        have z3 := tz_mem ham
        have z4 := tz_eq t
        have v1 : (#[32] : Array UInt8).size = 1 := rfl
        have v2 : (#[40] : Array UInt8).size = 1 := rfl
        have v3 : (#[41] : Array UInt8).size = 1 := rfl
        by_cases hal : a.args = []
        · have c3 : ((0 : Int) < (a.args.length : Int)) = False := by rw [hal]; simp
          have hS2 : (S ++ txB [32]) ++ txB (txT L a) = t.name ++ txB (txL L (t.args.take (k + 1))) := by
            rw [hS, htk, txL_app, ByteArray.append_assoc, ByteArray.append_assoc, txB_app, txB_app]
            simp [txL, hal]
          simp only [go_sem, reduceCtorEq, Nat.reduceAdd, Nat.reduceMul, Nat.reduceLeDiff, Nat.reduceLT, Int.reduceLE, Int.reduceLT, Int.reduceEq, Nat.reduceBEq, Nat.reduceEqDiff, c1, c2, hgk, hca2, f.1, f.2.1, f.2.2]
          refine hrec _ ?_
          simp only [go_sem, reduceCtorEq, Nat.reduceAdd, Nat.reduceMul, Nat.reduceLeDiff, Nat.reduceLT, Int.reduceLE, Int.reduceLT, Int.reduceEq, Nat.reduceBEq, Nat.reduceEqDiff, c1, c2, hgk, hca2, f.1, f.2.1, f.2.2, c3, hw]
          refine ⟨by omega, by omega, m - 1, _, by omega, ?_, k + 1, _, by omega, hS2, rfl⟩
          repeat (first | exact leEnv_nil | refine leEnv_any _ ?_ | refine leEnv_same _ ?_ | refine leEnv_norm _ ?_)
        · have c3 : ((0 : Int) < (a.args.length : Int)) = True := by
            have := List.length_pos_iff.2 hal
            exact eq_true (by omega)
          have hS2 : (S ++ txB [32]) ++ ((txB [40] ++ txB (txT L a)) ++ txB [41]) = t.name ++ txB (txL L (t.args.take (k + 1))) := by
            rw [hS, htk, txL_app, ByteArray.append_assoc, ByteArray.append_assoc, txB_app, txB_app, txB_app, txB_app]
            simp [txL, hal]
          simp only [go_sem, reduceCtorEq, Nat.reduceAdd, Nat.reduceMul, Nat.reduceLeDiff, Nat.reduceLT, Int.reduceLE, Int.reduceLT, Int.reduceEq, Nat.reduceBEq, Nat.reduceEqDiff, c1, c2, hgk, hca2, f.1, f.2.1, f.2.2]
          refine hrec _ ?_
          simp only [go_sem, reduceCtorEq, Nat.reduceAdd, Nat.reduceMul, Nat.reduceLeDiff, Nat.reduceLT, Int.reduceLE, Int.reduceLT, Int.reduceEq, Nat.reduceBEq, Nat.reduceEqDiff, c1, c2, hgk, hca2, f.1, f.2.1, f.2.2, c3, hw]
          refine ⟨by omega, by omega, by omega, by omega, m - 1, _, by omega, ?_, k + 1, _, by omega, hS2, rfl⟩
          repeat (first | exact leEnv_nil | refine leEnv_any _ ?_ | refine leEnv_same _ ?_ | refine leEnv_norm _ ?_)
      · obtain rfl : k = t.args.length := by omega
        rw [List.take_length] at hS
        rw [← hS] at h
        simp only [go_sem, reduceCtorEq, Nat.reduceAdd, Nat.reduceMul, Nat.reduceLeDiff, Nat.reduceLT, Int.reduceLE, Int.reduceLT, Int.reduceEq, Nat.reduceBEq, Nat.reduceEqDiff, Int.lt_irrefl, f.1, f.2.1, f.2.2]
        exact fin_scS (Gs.ex hG1) h
    · have c0 : (t.v != 0) = true := by simp [hv]
      have hm : t.v ∈ L := hvs _ (by rw [vs_var hv]; simp)
      rw [txT_eq, if_neg hv] at h
      have hlt := List.idxOf_lt_length_of_mem hm
      obtain ⟨q, hq⟩ : ∃ q, L.idxOf t.v = q := ⟨_, rfl⟩
      rw [hq] at h hlt
      have hlw : IntKind.i64.wrap ((L.length : Int) - 1) = (L.length : Int) - 1 := IntWalk.i64_in _ (by omega)
      simp only [go_sem, reduceCtorEq, Nat.reduceAdd, Nat.reduceMul, Nat.reduceLeDiff, Nat.reduceLT, Int.reduceLE, Int.reduceLT, Int.reduceEq, Nat.reduceBEq, Nat.reduceEqDiff, hca, hs1, f.1, f.2.1, f.2.2, c0]
      refine awp_rounds [] (fun m e s => ∃ k : Nat, m + k = q ∧ s = s1 ∧
        e = [.any, .slice .imm 1 (L.map i64V), .ptr st.length 0, .any, .any, .sc (.int .i64 k), .any, .any, .any, .any, .any, .any, .any, .any, .any, .any, .any, .any, .any, .any, .any, .any, .any, .any, .any, .any, .any, .any, .any, .any, .any, .any, .any, .any, .any, .any, .any, .any, .any, .any, .any, .any, .any, .any, .any, .any, .any, .any, .any, .any, .any, .any, .any, .any, .any, .any, .any, .any, .any, .any, .any, .any, .any, .any, .any, .any, .any, .any, .any, .any]) (n := q) ?_ ⟨0, by omega, rfl, rfl⟩ ?_
      · repeat (first | exact leEnv_nil | refine leEnv_any _ ?_ | refine leEnv_same _ ?_ | refine leEnv_norm _ ?_)
      rintro m e s ⟨k, hmk, rfl, rfl⟩
      by_cases hkq : k = q
      · subst hkq
        have hget : L.getD k 0 = t.v := by
          rw [← hq]; exact idx_get hm
        have c5 : (L.getD k 0 != t.v) = false := by rw [hget]; exact bne_self_eq_false _
        have c2 : (0 : Int) ≤ (k : Int) := by omega
        have c1 : (k : Int) < (L.length : Int) := by omega
        have hw97 : IntKind.i64.wrap (97 + (k : Int)) = 97 + (k : Int) := IntWalk.i64_in _ (by omega)
        have h1 : ((k : Int)).tmod 26 = k := by rw [tmod_nat26, Nat.mod_eq_of_lt (by omega)]
        have h2 : ((k : Int)).tdiv 26 = 0 := by
          have : ((k : Int)).tdiv 26 = ((k / 26 : Nat) : Int) := rfl
          rw [this, Nat.div_eq_of_lt (by omega)]; rfl
        have h3 := enc_let8 ⟨k, by omega⟩
        have hlast : ∀ c4 : Bool, c4 = decide ((k : Int) < (L.length : Int) - 1) → True := fun _ _ => trivial
        cases hc4 : decide ((k : Int) < (L.length : Int) - 1) with
        | true =>
          have c4 : ((k : Int) < (L.length : Int) - 1) = True := by simpa using hc4
          simp only [go_sem, reduceCtorEq, Nat.reduceAdd, Nat.reduceMul, Nat.reduceLeDiff, Nat.reduceLT, Int.reduceLE, Int.reduceLT, Int.reduceEq, Nat.reduceBEq, Nat.reduceEqDiff]
          refine awp_draw [] Tryd.mixed rfl ?_
          simp only [go_sem, reduceCtorEq, Nat.reduceAdd, Nat.reduceMul, Nat.reduceLeDiff, Nat.reduceLT, Int.reduceLE, Int.reduceLT, Int.reduceEq, Nat.reduceBEq, Nat.reduceEqDiff, f.1, f.2.1, f.2.2, c1, c2, c4, getD_i64 hlt, i64V_eq, Int.toNat_natCast, c5, hlw]
          refine awp_draw [] Tryd.mixed rfl ?_
          simp only [go_sem, reduceCtorEq, Nat.reduceAdd, Nat.reduceMul, Nat.reduceLeDiff, Nat.reduceLT, Int.reduceLE, Int.reduceLT, Int.reduceEq, Nat.reduceBEq, Nat.reduceEqDiff, h1, h2, hw97, convOk, convV, Tryd.aint3, Tryd.aint5, Tryd.aint9, Tryd.aint83, Tryd.atext9, Option.isSome_some, Option.isSome_none, h3]
          refine ⟨.slice .full 1 [.sc (.int .u8 (IntKind.u8.wrap (97 + (k : Int))))], ?_, ?_⟩
          · simp only [go_sem, reduceCtorEq, Nat.reduceAdd, Nat.reduceMul, Nat.reduceLeDiff, Nat.reduceLT, Int.reduceLE, Int.reduceLT, Int.reduceEq, Nat.reduceBEq, Nat.reduceEqDiff]
            exact ⟨⟨[], by simp⟩, ids_slice (.inr rfl) (fun x hx y hy => by simp at hx; subst hx; simp [SV.cells] at hy; subst hy; exact .sc _), .inl rfl⟩
          have hnn : txB (letB k) ++ (⟨#[]⟩ : ByteArray) = txB (letB k) := ByteArray.append_empty
          have hsz : (txB (letB k)).size = 1 := by rw [txB_size]; rfl
          simp only [go_sem, reduceCtorEq, Nat.reduceAdd, Nat.reduceMul, Nat.reduceLeDiff, Nat.reduceLT, Int.reduceLE, Int.reduceLT, Int.reduceEq, Nat.reduceBEq, Nat.reduceEqDiff, convOk, convV, Tryd.ael83, Tryd.atext9, isByte, List.all_cons, List.all_nil, h3, h2]
          refine ⟨.sc (.string ⟨#[]⟩), ?_, ?_⟩
          · simp only [go_sem, reduceCtorEq, Nat.reduceAdd, Nat.reduceMul, Nat.reduceLeDiff, Nat.reduceLT, Int.reduceLE, Int.reduceLT, Int.reduceEq, Nat.reduceBEq, Nat.reduceEqDiff]
            exact digits_c _ _ ⟨⟨[], by simp⟩, .sc _, .inl rfl⟩
          simp only [go_sem, reduceCtorEq, Nat.reduceAdd, Nat.reduceMul, Nat.reduceLeDiff, Nat.reduceLT, Int.reduceLE, Int.reduceLT, Int.reduceEq, Nat.reduceBEq, Nat.reduceEqDiff, hnn, hsz]
          exact ⟨by have : (#[] : Array UInt8).size = 0 := rfl; omega, fin_scS (Gs.ex hG1) h⟩
        | false =>
          have c4 : ((k : Int) < (L.length : Int) - 1) = False := by simpa using hc4
          simp only [go_sem, reduceCtorEq, Nat.reduceAdd, Nat.reduceMul, Nat.reduceLeDiff, Nat.reduceLT, Int.reduceLE, Int.reduceLT, Int.reduceEq, Nat.reduceBEq, Nat.reduceEqDiff]
          refine awp_draw [] Tryd.mixed rfl ?_
          simp only [go_sem, reduceCtorEq, Nat.reduceAdd, Nat.reduceMul, Nat.reduceLeDiff, Nat.reduceLT, Int.reduceLE, Int.reduceLT, Int.reduceEq, Nat.reduceBEq, Nat.reduceEqDiff, f.1, f.2.1, f.2.2, c1, c2, c4, getD_i64 hlt, i64V_eq, Int.toNat_natCast, c5, hlw]
          refine awp_draw [] Tryd.mixed rfl ?_
          simp only [go_sem, reduceCtorEq, Nat.reduceAdd, Nat.reduceMul, Nat.reduceLeDiff, Nat.reduceLT, Int.reduceLE, Int.reduceLT, Int.reduceEq, Nat.reduceBEq, Nat.reduceEqDiff, h1, h2, hw97, convOk, convV, Tryd.aint3, Tryd.aint5, Tryd.aint9, Tryd.aint83, Tryd.atext9, Option.isSome_some, Option.isSome_none, h3]
          refine ⟨.slice .full 1 [.sc (.int .u8 (IntKind.u8.wrap (97 + (k : Int))))], ?_, ?_⟩
          · simp only [go_sem, reduceCtorEq, Nat.reduceAdd, Nat.reduceMul, Nat.reduceLeDiff, Nat.reduceLT, Int.reduceLE, Int.reduceLT, Int.reduceEq, Nat.reduceBEq, Nat.reduceEqDiff]
            exact ⟨⟨[], by simp⟩, ids_slice (.inr rfl) (fun x hx y hy => by simp at hx; subst hx; simp [SV.cells] at hy; subst hy; exact .sc _), .inl rfl⟩
          have hnn : txB (letB k) ++ (⟨#[]⟩ : ByteArray) = txB (letB k) := ByteArray.append_empty
          have hsz : (txB (letB k)).size = 1 := by rw [txB_size]; rfl
          simp only [go_sem, reduceCtorEq, Nat.reduceAdd, Nat.reduceMul, Nat.reduceLeDiff, Nat.reduceLT, Int.reduceLE, Int.reduceLT, Int.reduceEq, Nat.reduceBEq, Nat.reduceEqDiff, convOk, convV, Tryd.ael83, Tryd.atext9, isByte, List.all_cons, List.all_nil, h3, h2]
          refine ⟨.sc (.string ⟨#[]⟩), ?_, ?_⟩
          · simp only [go_sem, reduceCtorEq, Nat.reduceAdd, Nat.reduceMul, Nat.reduceLeDiff, Nat.reduceLT, Int.reduceLE, Int.reduceLT, Int.reduceEq, Nat.reduceBEq, Nat.reduceEqDiff]
            exact digits_c _ _ ⟨⟨[], by simp⟩, .sc _, .inl rfl⟩
          simp only [go_sem, reduceCtorEq, Nat.reduceAdd, Nat.reduceMul, Nat.reduceLeDiff, Nat.reduceLT, Int.reduceLE, Int.reduceLT, Int.reduceEq, Nat.reduceBEq, Nat.reduceEqDiff, hnn, hsz]
          exact ⟨by have : (#[] : Array UInt8).size = 0 := rfl; omega, fin_scS (Gs.ex hG1) h⟩
      · have hkl : k < L.length := by omega
        have hget : L.getD k 0 ≠ t.v := fun e => by
          have h5 : L.idxOf t.v ≤ k := by
            exact idx_le hkl e
          omega
        have c5 : (L.getD k 0 != t.v) = true := bne_iff_ne.2 hget
        have c2 : (0 : Int) ≤ (k : Int) := by omega
        have c1 : (k : Int) < (L.length : Int) := by omega
        have c4 : ((k : Int) < (L.length : Int) - 1) = True := eq_true (by omega)
        have hw := wrapS k (by omega)
        simp only [go_sem, reduceCtorEq, Nat.reduceAdd, Nat.reduceMul, Nat.reduceLeDiff, Nat.reduceLT, Int.reduceLE, Int.reduceLT, Int.reduceEq, Nat.reduceBEq, Nat.reduceEqDiff]
        refine awp_draw [] Tryd.mixed rfl ?_
        simp only [go_sem, reduceCtorEq, Nat.reduceAdd, Nat.reduceMul, Nat.reduceLeDiff, Nat.reduceLT, Int.reduceLE, Int.reduceLT, Int.reduceEq, Nat.reduceBEq, Nat.reduceEqDiff, f.1, f.2.1, f.2.2, c1, c2, c4, getD_i64 hkl, i64V_eq, Int.toNat_natCast, c5, hlw, hw]
        refine ⟨m - 1, _, by omega, ?_, k + 1, by omega, rfl⟩
        repeat (first | exact leEnv_nil | refine leEnv_any _ ?_ | refine leEnv_same _ ?_ | refine leEnv_norm _ ?_)

set_option maxHeartbeats 4000000 in
theorem rShow_c (t : Ty) (ht : ShOk t) (K : SV → St → Prop) (st : St) (h : K (.sc (.string (showA t))) st) : ACalls Tryd.prog 41 [tySV t] K st := by
  refine acalls_go_pure [] Tryd.func41 rfl Tryd.results41 Tryd.ntmps41 ?_
  have hF := fun K h => Form_c 9223372036854775807 t K st h
  have hco := cellsOf_ty (P := Tryd.prog) (t := 25) t Tryd.aagg25 Tryd.asize25
  rcases ht with rfl | ⟨hg, hf, hm⟩
  · have hmay : mayB (fun n => decide (1 ≤ n) && decide (n ≤ 9223372036854775807)) default = false := by
      unfold mayB
      have : goodB (fun n => decide (1 ≤ n) && decide (n ≤ 9223372036854775807)) default = false := by
        rw [goodB_eq]
        show (if (0 : Int) = 0 then !(ByteArray.toList ⟨#[]⟩ == ByteArray.toList ⟨#[]⟩) && _ else _) = false
        simp
      rw [this]; rfl
    rw [hmay] at hF
    rw [show_default] at h
    simp only [go_sem, reduceCtorEq, Nat.reduceAdd, Nat.reduceMul, Nat.reduceLeDiff, Nat.reduceLT, Int.reduceLE, Int.reduceLT, Int.reduceEq, Nat.reduceBEq, Nat.reduceEqDiff, hco]
    refine hF _ ?_
    simp only [go_sem, reduceCtorEq, Nat.reduceAdd, Nat.reduceMul, Nat.reduceLeDiff, Nat.reduceLT, Int.reduceLE, Int.reduceLT, Int.reduceEq, Nat.reduceBEq, Nat.reduceEqDiff]
    exact fin_sc h
  · have hgd := good_gd hg
    have hmay : mayB (fun n => decide (1 ≤ n) && decide (n ≤ 9223372036854775807)) t = true := by
      have hg2 := good_mono (q := fun n => decide (1 ≤ n) && decide (n ≤ 9223372036854775807)) (fun n hn => by
        unfold ownP at hn
        simp only [Bool.and_eq_true, decide_eq_true_eq] at hn ⊢
        omega) _ t (Nat.le_refl _) hg
      unfold mayB
      rw [hg2, Bool.true_and, Bool.and_comm]
      exact hf
    rw [hmay] at hF
    have hfit := hf
    unfold fitB at hfit
    simp only [Bool.and_eq_true, decide_eq_true_eq] at hfit
    have hsh : showA t = txB (txT (vsS t []) t) := by unfold showA; rw [hg, hf]; rfl
    rw [hsh] at h
    have hvs := fun K h => rvars0_c t hgd (by omega) K st h
    have htx := fun K h => written_c (L := vsS t []) (by have := vs_few hg; omega) _ t (Nat.le_refl _) (by omega) (by have := tz_nm t hm; omega) hgd (vsS_sub _ t (Nat.le_refl _) []).2.1 K st h
    simp only [go_sem, reduceCtorEq, Nat.reduceAdd, Nat.reduceMul, Nat.reduceLeDiff, Nat.reduceLT, Int.reduceLE, Int.reduceLT, Int.reduceEq, Nat.reduceBEq, Nat.reduceEqDiff, hco]
    refine hF _ ?_
    simp only [go_sem, reduceCtorEq, Nat.reduceAdd, Nat.reduceMul, Nat.reduceLeDiff, Nat.reduceLT, Int.reduceLE, Int.reduceLT, Int.reduceEq, Nat.reduceBEq, Nat.reduceEqDiff]
    refine awp_draw [] Tryd.mixed rfl ?_
    simp only [go_sem, reduceCtorEq, Nat.reduceAdd, Nat.reduceMul, Nat.reduceLeDiff, Nat.reduceLT, Int.reduceLE, Int.reduceLT, Int.reduceEq, Nat.reduceBEq, Nat.reduceEqDiff, hco]
    refine ⟨.slice .imm 1 ((vsS t []).map i64V), ?_, ?_⟩
    · simp only [go_sem, reduceCtorEq, Nat.reduceAdd, Nat.reduceMul, Nat.reduceLeDiff, Nat.reduceLT, Int.reduceLE, Int.reduceLT, Int.reduceEq, Nat.reduceBEq, Nat.reduceEqDiff]
      exact hvs _ ⟨⟨[], by simp⟩, ids_i64 _ _, .inl rfl⟩
    simp only [go_sem, reduceCtorEq, Nat.reduceAdd, Nat.reduceMul, Nat.reduceLeDiff, Nat.reduceLT, Int.reduceLE, Int.reduceLT, Int.reduceEq, Nat.reduceBEq, Nat.reduceEqDiff, hco]
    refine ⟨.sc (.string (txB (txT (vsS t []) t))), ?_, ?_⟩
    · simp only [go_sem, reduceCtorEq, Nat.reduceAdd, Nat.reduceMul, Nat.reduceLeDiff, Nat.reduceLT, Int.reduceLE, Int.reduceLT, Int.reduceEq, Nat.reduceBEq, Nat.reduceEqDiff]
      exact htx _ ⟨⟨[], by simp⟩, .sc _, .inl rfl⟩
    simp only [go_sem, reduceCtorEq, Nat.reduceAdd, Nat.reduceMul, Nat.reduceLeDiff, Nat.reduceLT, Int.reduceLE, Int.reduceLT, Int.reduceEq, Nat.reduceBEq, Nat.reduceEqDiff]
    exact fin_sc h

end Go.Proofs
