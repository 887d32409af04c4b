/- The law's helpers: six, like. -/
import Derived.Test.YteclbnjpijakbaaDoorM12
set_option linter.unusedSimpArgs false
set_option linter.unusedVariables false
set_option maxRecDepth 8000
namespace Go.Proofs
open Go Go.AL

def sixT : Ty := .mk 0 ⟨#[115, 105, 120]⟩ [mkv 1, mkv 2, mkv 3, mkv 4, mkv 5, mkv 6]
theorem six_t : checkT Tryd.prog cfgT 1000 12 [] (tySV sixT) = true := by decide +kernel
theorem six_c (K : SV → St → Prop) (st : St) (h : K (tySV sixT) st) : ACalls Tryd.prog 12 [] K st := acalls_checkT cfgT_ok Tryd.mixed 1000 six_t h

/-- Both states, side by side: they bind the same. -/
structure PS (st : St) (eid rid : Nat) (B : Bd) : Prop where
  ex : ∃ (mid : Nat) (M : List (Int × Ty)) (ra rb va vb : Nat) (R : List (Option Ty)), TSt st eid mid 6 M ∧ GM 6 M ∧ gmGet M = B ∧ RSt st rid ra rb va vb R ∧ R.length = 6 ∧ gR R = B
theorem PS.bg {st : St} {eid rid : Nat} {B : Bd} (h : PS st eid rid B) : RG 6 B := by
  obtain ⟨mid, M, ra, rb, va, vb, R, h1, h2, h3, h4, h5, h6⟩ := h.ex
  rw [← h3]; exact ⟨h2.bg, h2.sm, h2.nm⟩
theorem PS.app {st : St} {eid rid : Nat} {B : Bd} (h : PS st eid rid B) (l : St) : PS (st ++ l) eid rid B := by
  obtain ⟨mid, M, ra, rb, va, vb, R, h1, h2, h3, h4, h5, h6⟩ := h.ex
  exact ⟨mid, M, ra, rb, va, vb, R, h1.app l, h2, h3, h4.app l, h5, h6⟩

theorem shOk_ap {B : Bd} (h : RG 6 B) {t : Ty} (hn : nmB t = true) : ShOk (ApT 6 B t) := by
  cases hc : okT 6 B t with
  | false => rw [ap_no hc]; exact .inl rfl
  | true =>
    have ho := ok_good hc
    rw [(still_ap h.bg hc).1]
    exact .inr ⟨AP_gp h.bg ho.1, ho.2, AP_nm h.bg.ends h.bg.gp.gb h.nm (good_gd ho.1) hn⟩

theorem ap_c {st : St} {eid rid : Nat} {B : Bd} (h : PS st eid rid B) (t : Ty) (K : SV → St → Prop) (hk : K (tySV (ApT 6 B t)) st) : ACalls Tryd.prog 11 [.ptr eid 0, tySV t] K st := by
  obtain ⟨mid, M, ra, rb, va, vb, R, h1, h2, h3, h4, h5, h6⟩ := h.ex
  subst h3
  exact Apply_c h2.bg.ends h2.bg.gp.gb t K st h1 hk
theorem rap_c {st : St} {eid rid : Nat} {B : Bd} (h : PS st eid rid B) {t : Ty} (ho : okT 6 B t = true) (K : SV → St → Prop) (hk : K (tySV (AP B t)) st) : ACalls Tryd.prog 42 [.ptr rid 0, tySV t] K st := by
  obtain ⟨mid, M, ra, rb, va, vb, R, h1, h2, h3, h4, h5, h6⟩ := h.ex
  have hb := h.bg.bg
  subst h6
  have hf := (ok_good ho)
  have hff := hf.2
  unfold fitB at hff
  simp only [Bool.and_eq_true, decide_eq_true_eq] at hff
  exact rapply_c (by omega) (by rw [h5]; exact hb) 40 t (by rw [h5]; exact hf.1) hff.2 (by omega) K st h4 hk
theorem rmay_c {st : St} {eid rid : Nat} {B : Bd} (h : PS st eid rid B) (t : Ty) (K : SV → St → Prop) (hk : K (.sc (.bool (okT 6 B t))) st) : ACalls Tryd.prog 19 [.ptr rid 0, tySV t] K st := by
  obtain ⟨mid, M, ra, rb, va, vb, R, h1, h2, h3, h4, h5, h6⟩ := h.ex
  have hb := h.bg.bg
  subst h6
  refine rMay_c h4 (by omega) (by rw [h5]; exact hb) t K ?_
  rw [h5]; exact hk

set_option maxHeartbeats 4000000 in
theorem like_c {st : St} {eid rid : Nat} {B : Bd} (h : PS st eid rid B) (t : Ty) (hn : nmB t = true) (K : SV → St → Prop) (hk : K (.sc (.bool true)) st) : ACalls Tryd.prog 23 [.ptr eid 0, .ptr rid 0, tySV t] K st := by
  refine acalls_go_pure [] Tryd.func23 rfl Tryd.results23 Tryd.ntmps23 ?_
  have hmay := fun K hk => rmay_c h t K hk
  have hap := fun K hk => ap_c h t K hk
  have hsh := fun K hk => Show_c (ApT 6 B t) (shOk_ap h.bg hn) K st hk
  have hco := cellsOf_ty (P := Tryd.prog) (t := 25) t Tryd.aagg25 Tryd.asize25
  cases ho : okT 6 B t with
  | false =>
    rw [ho] at hmay
    rw [ap_no ho] at hap
    simp only [go_sem, reduceCtorEq, Nat.reduceAdd, Nat.reduceMul, Nat.reduceLeDiff, Nat.reduceLT, Int.reduceLE, Int.reduceLT, Int.reduceEq, Nat.reduceBEq, Nat.reduceEqDiff, hco]
    refine hmay _ ?_
    simp only [go_sem, reduceCtorEq, Nat.reduceAdd, Nat.reduceMul, Nat.reduceLeDiff, Nat.reduceLT, Int.reduceLE, Int.reduceLT, Int.reduceEq, Nat.reduceBEq, Nat.reduceEqDiff, hco]
    refine hap _ ?_
    have hd : (tySV (default : Ty)).cells = [.sc (.int .i64 0), .sc (.string ⟨#[]⟩), .slice .imm 3 []] := cells_ty default
    obtain ⟨s2, hs2⟩ : ∃ s2, st ++ [Ob.cells [.sc (.int .i64 0), .sc (.string ⟨#[]⟩), .slice .imm 3 []]] = s2 := ⟨_, rfl⟩
    have e2 : s2[st.length]? = some (.cells [.sc (.int .i64 0), .sc (.string ⟨#[]⟩), .slice .imm 3 []]) := by rw [← hs2]; simp
    have f2 := cells_facts e2
    simp only [go_sem, reduceCtorEq, Nat.reduceAdd, Nat.reduceMul, Nat.reduceLeDiff, Nat.reduceLT, Int.reduceLE, Int.reduceLT, Int.reduceEq, Nat.reduceBEq, Nat.reduceEqDiff, hd, hs2, f2.1, f2.2.1, f2.2.2, beq_self_eq_true]
    exact fin_scS ⟨_, hs2.symm⟩ hk
  | true =>
    rw [ho] at hmay
    have hA := (still_ap h.bg.bg ho).1
    have hrap := fun K hk => rap_c h ho K hk
    have hrs := fun K hk => rShow_c (AP B t) (by rw [← hA]; exact shOk_ap h.bg hn) K st hk
    rw [hA] at hap hsh
    simp only [go_sem, reduceCtorEq, Nat.reduceAdd, Nat.reduceMul, Nat.reduceLeDiff, Nat.reduceLT, Int.reduceLE, Int.reduceLT, Int.reduceEq, Nat.reduceBEq, Nat.reduceEqDiff, hco]
    refine hmay _ ?_
    simp only [go_sem, reduceCtorEq, Nat.reduceAdd, Nat.reduceMul, Nat.reduceLeDiff, Nat.reduceLT, Int.reduceLE, Int.reduceLT, Int.reduceEq, Nat.reduceBEq, Nat.reduceEqDiff, hco]
    refine awp_draw [] Tryd.mixed rfl ?_
    simp only [go_sem, reduceCtorEq, Nat.reduceAdd, Nat.reduceMul, Nat.reduceLeDiff, Nat.reduceLT, Int.reduceLE, Int.reduceLT, Int.reduceEq, Nat.reduceBEq, Nat.reduceEqDiff, hco]
    refine ⟨tySV (AP B t), ?_, ?_⟩
    · simp only [go_sem, reduceCtorEq, Nat.reduceAdd, Nat.reduceMul, Nat.reduceLeDiff, Nat.reduceLT, Int.reduceLE, Int.reduceLT, Int.reduceEq, Nat.reduceBEq, Nat.reduceEqDiff]
      exact hap _ ⟨⟨[], by simp⟩, ids_ty _ _, .inl rfl⟩
    simp only [go_sem, reduceCtorEq, Nat.reduceAdd, Nat.reduceMul, Nat.reduceLeDiff, Nat.reduceLT, Int.reduceLE, Int.reduceLT, Int.reduceEq, Nat.reduceBEq, Nat.reduceEqDiff, hco]
    refine ⟨.sc (.string (showA (AP B t))), ?_, ?_⟩
    · simp only [go_sem, reduceCtorEq, Nat.reduceAdd, Nat.reduceMul, Nat.reduceLeDiff, Nat.reduceLT, Int.reduceLE, Int.reduceLT, Int.reduceEq, Nat.reduceBEq, Nat.reduceEqDiff]
      exact hsh _ ⟨⟨[], by simp⟩, .sc _, .inl rfl⟩
    simp only [go_sem, reduceCtorEq, Nat.reduceAdd, Nat.reduceMul, Nat.reduceLeDiff, Nat.reduceLT, Int.reduceLE, Int.reduceLT, Int.reduceEq, Nat.reduceBEq, Nat.reduceEqDiff, hco]
    refine ⟨tySV (AP B t), ?_, ?_⟩
    · simp only [go_sem, reduceCtorEq, Nat.reduceAdd, Nat.reduceMul, Nat.reduceLeDiff, Nat.reduceLT, Int.reduceLE, Int.reduceLT, Int.reduceEq, Nat.reduceBEq, Nat.reduceEqDiff]
      exact hrap _ ⟨⟨[], by simp⟩, ids_ty _ _, .inl rfl⟩
    simp only [go_sem, reduceCtorEq, Nat.reduceAdd, Nat.reduceMul, Nat.reduceLeDiff, Nat.reduceLT, Int.reduceLE, Int.reduceLT, Int.reduceEq, Nat.reduceBEq, Nat.reduceEqDiff, hco]
    refine ⟨.sc (.string (showA (AP B t))), ?_, ?_⟩
    · simp only [go_sem, reduceCtorEq, Nat.reduceAdd, Nat.reduceMul, Nat.reduceLeDiff, Nat.reduceLT, Int.reduceLE, Int.reduceLT, Int.reduceEq, Nat.reduceBEq, Nat.reduceEqDiff]
      exact hrs _ ⟨⟨[], by simp⟩, .sc _, .inl rfl⟩
    simp only [go_sem, reduceCtorEq, Nat.reduceAdd, Nat.reduceMul, Nat.reduceLeDiff, Nat.reduceLT, Int.reduceLE, Int.reduceLT, Int.reduceEq, Nat.reduceBEq, Nat.reduceEqDiff, beq_self_eq_true]
    exact fin_sc hk

end Go.Proofs
set_option linter.unusedSimpArgs false
set_option linter.unusedVariables false
set_option maxRecDepth 8000
namespace Go.Proofs
open Go Go.AL

/-- An engine's state. -/
structure ES (st : St) (eid mid : Nat) (B : Bd) : Prop where
  ex : ∃ M, TSt st eid mid 6 M ∧ GM 6 M ∧ gmGet M = B
/-- A state of the document. -/
structure RS (st : St) (rid : Nat) (B : Bd) : Prop where
  ex : ∃ (ra rb va vb : Nat) (R : List (Option Ty)), RSt st rid ra rb va vb R ∧ R.length = 6 ∧ gR R = B ∧ RG 6 B
theorem ES.rg {st : St} {eid mid : Nat} {B : Bd} (h : ES st eid mid B) : RG 6 B := by
  obtain ⟨M, h1, h2, rfl⟩ := h.ex
  exact ⟨h2.bg, h2.sm, h2.nm⟩
theorem PS.mk2 {st : St} {eid mid rid : Nat} {B : Bd} (h : ES st eid mid B) (k : RS st rid B) : PS st eid rid B := by
  obtain ⟨M, h1, h2, h3⟩ := h.ex
  obtain ⟨ra, rb, va, vb, R, k1, k2, k3, k4⟩ := k.ex
  exact ⟨mid, M, ra, rb, va, vb, R, h1, h2, h3, k1, k2, k3⟩
theorem ES.lt {st : St} {eid mid : Nat} {B : Bd} (h : ES st eid mid B) : eid < st.length ∧ mid < st.length := by
  obtain ⟨M, h1, h2, h3⟩ := h.ex
  exact ⟨lt_of_get h1.hid, lt_of_get h1.hm⟩
theorem RS.lt {st : St} {rid : Nat} {B : Bd} (h : RS st rid B) : rid < st.length := by
  obtain ⟨ra, rb, va, vb, R, k1, k2, k3, k4⟩ := h.ex
  exact lt_of_get k1.hid

/-- What the engine's deeds leave as it was. -/
structure KE (eid mid : Nat) (st s : St) : Prop where
  gs : Gs [eid, mid] st s
  mp : ∃ es, st[mid]? = some (.map es)
  cl : ∃ o, st[eid]? = some (.cells o)
/-- What the document's deeds leave as it was. -/
structure KR (rid : Nat) (st s : St) : Prop where
  len : st.length ≤ s.length
  same : ∀ j o, st[j]? = some o → j ≠ rid → (∀ v z l, o ≠ .arr v z l) → s[j]? = some o
  cl : ∃ o, st[rid]? = some (.cells o)

theorem KE.cells {eid mid : Nat} {st s : St} (h : KE eid mid st s) {j : Nat} {o : List SV} (hj : st[j]? = some (.cells o)) (hn : j ≠ eid) : s[j]? = some (.cells o) := by
  obtain ⟨es, hm⟩ := h.mp
  have : j ≠ mid := by rintro rfl; have := hj.symm.trans hm; cases this
  rw [h.gs.same j (lt_of_get hj) (by simp; exact ⟨hn, this⟩)]; exact hj
theorem KE.rs {eid mid : Nat} {st s : St} (h : KE eid mid st s) {rid : Nat} {B : Bd} (hr : RS st rid B) (hn : rid ≠ eid) : RS s rid B := by
  obtain ⟨ra, rb, va, vb, R, k1, k2, k3, k4⟩ := hr.ex
  obtain ⟨es, hm⟩ := h.mp
  obtain ⟨o, hc⟩ := h.cl
  refine ⟨ra, rb, va, vb, R, RSt.gs h.gs k1 ?_ ?_ ?_, k2, k3, k4⟩
  · simp; exact ⟨hn, by rintro rfl; have := k1.hid.symm.trans hm; cases this⟩
  · simp; exact ⟨(by rintro rfl; have := k1.ha.symm.trans hc; cases this), by rintro rfl; have := k1.ha.symm.trans hm; cases this⟩
  · simp; exact ⟨(by rintro rfl; have := k1.hb.symm.trans hc; cases this), by rintro rfl; have := k1.hb.symm.trans hm; cases this⟩
theorem KE.es {eid mid : Nat} {st s : St} (h : KE eid mid st s) {eid2 mid2 : Nat} {B : Bd} (he : ES st eid2 mid2 B) (h1 : eid2 ≠ eid) (h2 : mid2 ≠ mid) : ES s eid2 mid2 B := by
  obtain ⟨M, k1, k2, k3⟩ := he.ex
  obtain ⟨es, hm⟩ := h.mp
  obtain ⟨o, hc⟩ := h.cl
  refine ⟨M, ⟨(h.gs.same _ (lt_of_get k1.hid) ?_).trans k1.hid, (h.gs.same _ (lt_of_get k1.hm) ?_).trans k1.hm⟩, k2, k3⟩
  · simp; exact ⟨h1, by rintro rfl; have := k1.hid.symm.trans hm; cases this⟩
  · simp; exact ⟨(by rintro rfl; have := k1.hm.symm.trans hc; cases this), h2⟩
theorem KR.cells {rid : Nat} {st s : St} (h : KR rid st s) {j : Nat} {o : List SV} (hj : st[j]? = some (.cells o)) (hn : j ≠ rid) : s[j]? = some (.cells o) := h.same j _ hj hn fun _ _ _ q => by cases q
theorem KR.es {rid : Nat} {st s : St} (h : KR rid st s) {eid mid : Nat} {B : Bd} (he : ES st eid mid B) (hn : eid ≠ rid) : ES s eid mid B := by
  obtain ⟨M, k1, k2, k3⟩ := he.ex
  obtain ⟨o, hc⟩ := h.cl
  have hm : mid ≠ rid := by rintro rfl; have := k1.hm.symm.trans hc; cases this
  exact ⟨M, ⟨h.cells k1.hid hn, h.same _ _ k1.hm hm fun _ _ _ q => by cases q⟩, k2, k3⟩

theorem ES.app {st : St} {eid mid : Nat} {B : Bd} (h : ES st eid mid B) (l : St) : ES (st ++ l) eid mid B := by
  obtain ⟨M, k1, k2, k3⟩ := h.ex
  exact ⟨M, k1.app l, k2, k3⟩
theorem RS.app {st : St} {rid : Nat} {B : Bd} (h : RS st rid B) (l : St) : RS (st ++ l) rid B := by
  obtain ⟨ra, rb, va, vb, R, k1, k2, k3, k4⟩ := h.ex
  exact ⟨ra, rb, va, vb, R, k1.app l, k2, k3, k4⟩

theorem uniE_c {st : St} {eid mid : Nat} {B : Bd} (h : ES st eid mid B) (a b : Ty) (ha : nmB a = true) (hb : nmB b = true) (K : SV → St → Prop)
    (hk : ∀ (e : Int) s' mid' B', UnR 6 B a b e B' → ES s' eid mid' B' → KE eid mid st s' → (mid' = mid ∨ st.length ≤ mid') → K (.sc (.int .i64 e)) s') : ACalls Tryd.prog 13 [.ptr eid 0, tySV a, tySV b] K st := by
  obtain ⟨M, k1, k2, rfl⟩ := h.ex
  exact Unify_c (by omega) k2 a b ha hb K st k1 fun e s' mid' M' u1 u2 u3 u4 u5 => hk e s' mid' _ u1 ⟨M', u3, u2, rfl⟩ ⟨u4, ⟨_, k1.hm⟩, ⟨_, k1.hid⟩⟩ u5
theorem uniR_c {st : St} {rid : Nat} {B : Bd} (h : RS st rid B) (a b : Ty) (ha : nmB a = true) (hb : nmB b = true) (K : SV → St → Prop)
    (hk : ∀ (e : Int) s' B', UnR 6 B a b e B' → RS s' rid B' → KR rid st s' → K (.sc (.int .i64 e)) s') : ACalls Tryd.prog 18 [.ptr rid 0, tySV a, tySV b] K st := by
  obtain ⟨ra, rb, va, vb, R, k1, k2, rfl, k4⟩ := h.ex
  have e6 : (R.length : Int) = 6 := by omega
  refine rUnify_c (by omega) (by rw [e6]; exact k4) a b ha hb K st k1 fun e s' a' b' va' vb' R' u1 u2 u3 u4 u5 => ?_
  rw [e6] at u1 u2
  refine hk e s' _ u1 ⟨a', b', va', vb', R', u4, by omega, rfl, u2⟩ ⟨u5.len, fun j o hj hn hno => ?_, ⟨_, k1.hid⟩⟩
  rw [u5.same j (lt_of_get hj) ?_]; exact hj
  simp only [List.mem_cons, List.not_mem_nil, or_false]
  rintro (q | q | q)
  · exact hn q
  · subst q; exact hno _ _ _ (Option.some.inj (hj.symm.trans k1.ha))
  · subst q; exact hno _ _ _ (Option.some.inj (hj.symm.trans k1.hb))

def prT (p : Ty × Ty) : SV := .agg ((tySV p.1).cells ++ (tySV p.2).cells)
theorem getD_prT {l : List (Ty × Ty)} {k : Nat} (h : k < l.length) : (l.map prT).getD k .any = prT (l.getD k (default, default)) := by simp [List.getD_eq_getElem?_getD, h]

theorem cut8_size (s : ByteArray) : (cut8 s).size ≤ 8 := by
  unfold cut8
  split
  · simp [ByteArray.size_extract]; omega
  · omega
theorem cut_nm : ∀ (d : Nat) (t : Ty), nmB (cutT d t) = true
  | 0, t => by
    rw [nmB_eq, cutT_eq]
    simp [Ty.name, Ty.args, cut8_size, cutArgs, nmL]
  | d + 1, t => by
    rw [nmB_eq, cutT_eq]
    have : nmL ((t.args.take 5).map (cutT d)) = true := nmL_of fun a ha => by
      obtain ⟨c, _, rfl⟩ := List.mem_map.1 ha
      exact cut_nm d c
    show (decide ((cut8 t.name).size ≤ 8) && nmL ((t.args.take 5).map (cutT d))) = true
    rw [this, decide_eq_true (cut8_size _)]; rfl

theorem likev_c {st : St} {eid rid : Nat} {B : Bd} (h : PS st eid rid B) (v : Int) (K : SV → St → Prop) (hk : K (.sc (.bool true)) st) : ACalls Tryd.prog 23 [.ptr eid 0, .ptr rid 0, .agg [.sc (.int .i64 v), .sc (.string ⟨#[]⟩), .slice .full 0 []]] K st := by
  have hn : nmB (mkv v) = true := by rw [nmB_eq]; rfl
  refine acalls_args (.cons (SVle.refl _) (.cons (SVle.refl _) (.cons ?_ .nil))) (like_c h (mkv v) hn K hk)
  rw [tySV_eq]
  exact SVle.agg (.cons (SVle.refl _) (.cons (SVle.refl _) (.cons (fun st σ w v h => (SVle.nil .full 0 3 (.inl rfl) st σ w v h).norm1) .nil)))

set_option maxHeartbeats 4000000 in
theorem plays_c {eid rid : Nat} (her : eid ≠ rid) (ps : List (Ty × Ty)) (hps : ps.length ≤ 9223372036854775807) (st : St) {mid : Nat} {B : Bd} (hE : ES st eid mid B) (hR : RS st rid B) (K : SV → St → Prop)
    (h : ∀ s mid' B', ES s eid mid' B' → RS s rid B' → st.length ≤ s.length → (∀ j o, st[j]? = some (.cells o) → j ≠ eid → j ≠ rid → s[j]? = some (.cells o)) → K (.sc (.bool true)) s) :
    ACalls Tryd.prog 8 [.ptr eid 0, .ptr rid 0, .slice .imm 6 (ps.map prT), .sc (.int .i64 6)] K st := by
  refine acalls_go (M := []) Tryd.func8 rfl Tryd.results8 Tryd.ntmps8 ?_
  simp only [go_sem, reduceCtorEq, Nat.reduceAdd, Nat.reduceMul, Nat.reduceLeDiff, Nat.reduceLT, Int.reduceLE, Int.reduceLT, Int.reduceEq, Nat.reduceBEq, Nat.reduceEqDiff]
  refine awp_rounds [] (fun m e s => ∃ (k : Nat) (mid' : Nat) (B' : Bd), m + k = 6 ∧ ES s eid mid' B' ∧ RS s rid B' ∧ st.length ≤ s.length ∧ (∀ j o, st[j]? = some (.cells o) → j ≠ eid → j ≠ rid → s[j]? = some (.cells o)) ∧
    e = [.ptr eid 0, .ptr rid 0, .slice .imm 6 (ps.map prT), .sc (.int .i64 6), .any, .any, .any, .any, .any, .sc (.int .i64 k), .any, .any, .any, .any, .any, .any, .any, .any, .any, .any, .any, .any, .any, .any, .any, .any, .any, .any, .any, .any, .any, .any, .any, .any, .any, .any, .any, .any, .any, .any, .any, .any, .any, .any, .any, .any, .any, .any, .any, .any, .any, .any, .any, .any, .any, .any, .any, .any, .any, .any, .any]) (n := 6) ?_ ⟨0, mid, B, by omega, hE, hR, Nat.le_refl _, fun _ _ q _ _ => q, rfl⟩ ?_
  · repeat (first | exact leEnv_nil | refine leEnv_any _ ?_ | refine leEnv_same _ ?_ | refine leEnv_norm _ ?_)
  rintro m e s ⟨k, mid', B', hmk, hE', hR', hlen, hkeep, rfl⟩
  by_cases hlt : k < ps.length
  · have c1 : ((k : Int) < (ps.length : Int)) = True := eq_true (by omega)
    by_cases hk6 : k < 6
    · have c2 : ((k : Int) < 6) = True := eq_true (by omega)
      have c1' : (k : Int) < (ps.length : Int) := by omega
      have c0 : (0 : Int) ≤ (k : Int) := by omega
      obtain ⟨q, hq⟩ : ∃ q, ps.getD k (default, default) = q := ⟨_, rfl⟩
      have hgk : (ps.map prT).getD k .any = .agg [.sc (.int .i64 q.1.v), .sc (.string q.1.name), .slice .imm 3 (q.1.args.map tySV), .sc (.int .i64 q.2.v), .sc (.string q.2.name), .slice .imm 3 (q.2.args.map tySV)] := by
        rw [getD_prT hlt, hq]
        show SV.agg ((tySV q.1).cells ++ (tySV q.2).cells) = _
        rw [cells_ty, cells_ty]; rfl
      have hA := fun K s h => cut_c 6 (by omega) q.1 K s h
      have hBc := fun K s h => cut_c 6 (by omega) q.2 K s h
      obtain ⟨a, ha⟩ : ∃ a, cutT 6 q.1 = a := ⟨_, rfl⟩
      obtain ⟨b, hb⟩ : ∃ b, cutT 6 q.2 = b := ⟨_, rfl⟩
      have na : nmB a = true := by rw [← ha]; exact cut_nm _ _
      have nb : nmB b = true := by rw [← hb]; exact cut_nm _ _
      rw [ha, tySV_eq q.1] at hA
      rw [hb, tySV_eq q.2] at hBc
      have hca := cells_ty a
      have hcb := cells_ty b
      obtain ⟨s1, hs1⟩ : ∃ s1, s ++ [Ob.cells [.sc (.int .i64 a.v), .sc (.string a.name), .slice .imm 3 (a.args.map tySV)]] = s1 := ⟨_, rfl⟩
      obtain ⟨s2, hs2⟩ : ∃ s2, s1 ++ [Ob.cells [.sc (.int .i64 b.v), .sc (.string b.name), .slice .imm 3 (b.args.map tySV)]] = s2 := ⟨_, rfl⟩
      have hl1 : s1.length = s.length + 1 := by rw [← hs1]; simp
      have k1 : s2[s.length]? = some (.cells [.sc (.int .i64 a.v), .sc (.string a.name), .slice .imm 3 (a.args.map tySV)]) := by rw [← hs2, List.getElem?_append_left (by omega), ← hs1]; simp
      have k2 : s2[s1.length]? = some (.cells [.sc (.int .i64 b.v), .sc (.string b.name), .slice .imm 3 (b.args.map tySV)]) := by rw [← hs2]; simp
      have f1 := cells_facts k1
      have f2 := cells_facts k2
      have hE2 : ES s2 eid mid' B' := by rw [← hs2, ← hs1]; exact (hE'.app _).app _
      have hR2 : RS s2 rid B' := by rw [← hs2, ← hs1]; exact (hR'.app _).app _
      have hne1 : s.length ≠ eid := by have := hE'.lt; omega
      have hne2 : s1.length ≠ eid := by have := hE'.lt; omega
      have hUE := fun K h => uniE_c hE2 a b na nb K h
      rw [tySV_eq a, tySV_eq b] at hUE
      simp only [go_sem, reduceCtorEq, Nat.reduceAdd, Nat.reduceMul, Nat.reduceLeDiff, Nat.reduceLT, Int.reduceLE, Int.reduceLT, Int.reduceEq, Nat.reduceBEq, Nat.reduceEqDiff, c1, c2, c0, hgk]
      refine hA _ _ ?_
      simp only [go_sem, reduceCtorEq, Nat.reduceAdd, Nat.reduceMul, Nat.reduceLeDiff, Nat.reduceLT, Int.reduceLE, Int.reduceLT, Int.reduceEq, Nat.reduceBEq, Nat.reduceEqDiff, c1, c2, c0, hgk, hca, hs1]
      refine hBc _ _ ?_
      simp only [go_sem, reduceCtorEq, Nat.reduceAdd, Nat.reduceMul, Nat.reduceLeDiff, Nat.reduceLT, Int.reduceLE, Int.reduceLT, Int.reduceEq, Nat.reduceBEq, Nat.reduceEqDiff, c1, c2, c0, hgk, hcb, hs2, f1.1, f1.2.1, f1.2.2, f2.1, f2.2.1, f2.2.2]
      refine hUE _ (fun e s3 mid3 B3 u1 u2 u3 u4 => ?_)
      have g1 := cells_facts (u3.cells k1 hne1)
      have g2 := cells_facts (u3.cells k2 hne2)
      have hUR := fun K h => uniR_c (u3.rs hR2 her.symm) a b na nb K h
      rw [tySV_eq a, tySV_eq b] at hUR
      simp only [go_sem, reduceCtorEq, Nat.reduceAdd, Nat.reduceMul, Nat.reduceLeDiff, Nat.reduceLT, Int.reduceLE, Int.reduceLT, Int.reduceEq, Nat.reduceBEq, Nat.reduceEqDiff, g1.1, g1.2.1, g1.2.2, g2.1, g2.2.1, g2.2.2]
      refine hUR _ (fun e' s4 B4 w1 w2 w3 => ?_)
      have hd := un_det u1 w1
      have c3 : (e != e') = false := by rw [hd.1]; exact bne_self_eq_false _
      have hE4 := w3.es u2 her
      have hPS : PS s4 eid rid B3 := PS.mk2 hE4 (by rw [hd.2]; exact w2)
      have hw := wrapS k (by omega)
      have hkeep4 : ∀ j o, st[j]? = some (.cells o) → j ≠ eid → j ≠ rid → s4[j]? = some (.cells o) := fun j o hj n1 n2 => by
        have h1 := hkeep j o hj n1 n2
        have h2 : s2[j]? = some (.cells o) := by rw [← hs2, ← hs1, List.append_assoc]; exact (List.getElem?_append_left (lt_of_get h1)).trans h1
        exact w3.cells (u3.cells h2 n1) n2
      have hlen4 : st.length ≤ s4.length := by
        have h1 := u3.gs.len
        have h2 := w3.len
        have h3 : s2.length = s1.length + 1 := by rw [← hs2]; simp
        omega
      simp only [go_sem, reduceCtorEq, Nat.reduceAdd, Nat.reduceMul, Nat.reduceLeDiff, Nat.reduceLT, Int.reduceLE, Int.reduceLT, Int.reduceEq, Nat.reduceBEq, Nat.reduceEqDiff, c3]
      refine awp_rounds [] (fun m e s => ∃ (v : Nat), m + v = 7 ∧ 1 ≤ v ∧ s = s4 ∧
        e = [.ptr eid 0, .ptr rid 0, .slice .imm 6 (ps.map prT), .sc (.int .i64 6), .any, .any, .any, .any, .any, .sc (.int .i64 k), .any, .any, .any, .any, .sc (.int .i64 v), .any, .any, .any, .any, .any, .any, .any, .any, .any, .any, .any, .any, .any, .any, .any, .any, .any, .any, .any, .any, .any, .any, .any, .any, .any, .any, .any, .any, .any, .any, .any, .any, .any, .any, .any, .any, .any, .any, .any, .any, .any, .any, .any, .any, .any, .any]) (n := 6) ?_ ⟨1, by omega, by omega, rfl, rfl⟩ ?_
      · repeat (first | exact leEnv_nil | refine leEnv_any _ ?_ | refine leEnv_same _ ?_ | refine leEnv_norm _ ?_)
      rintro m2 e2 s5 ⟨v, hmv, hv1, rfl, rfl⟩
      by_cases hv6 : v ≤ 6
      · have d1 : ((v : Int) ≤ 6) = True := eq_true (by omega)
        have hwv := wrapS v (by omega)
        have hlk := fun K h => likev_c hPS v K h
        simp only [go_sem, reduceCtorEq, Nat.reduceAdd, Nat.reduceMul, Nat.reduceLeDiff, Nat.reduceLT, Int.reduceLE, Int.reduceLT, Int.reduceEq, Nat.reduceBEq, Nat.reduceEqDiff, d1]
        refine hlk _ ?_
        simp only [go_sem, reduceCtorEq, Nat.reduceAdd, Nat.reduceMul, Nat.reduceLeDiff, Nat.reduceLT, Int.reduceLE, Int.reduceLT, Int.reduceEq, Nat.reduceBEq, Nat.reduceEqDiff, hwv]
        refine ⟨m2 - 1, _, by omega, ?_, v + 1, by omega, by omega, rfl⟩
        repeat (first | exact leEnv_nil | refine leEnv_any _ ?_ | refine leEnv_same _ ?_ | refine leEnv_norm _ ?_)
      · have d1 : ((v : Int) ≤ 6) = False := eq_false (by omega)
        simp only [go_sem, reduceCtorEq, Nat.reduceAdd, Nat.reduceMul, Nat.reduceLeDiff, Nat.reduceLT, Int.reduceLE, Int.reduceLT, Int.reduceEq, Nat.reduceBEq, Nat.reduceEqDiff, d1, hw]
        refine ⟨m - 1, _, by omega, ?_, k + 1, mid3, B3, by omega, hE4, by rw [hd.2]; exact w2, hlen4, hkeep4, rfl⟩
        repeat (first | exact leEnv_nil | refine leEnv_any _ ?_ | refine leEnv_same _ ?_ | refine leEnv_norm _ ?_)
    · have c2 : ((k : Int) < 6) = False := eq_false (by omega)
      simp only [go_sem, reduceCtorEq, Nat.reduceAdd, Nat.reduceMul, Nat.reduceLeDiff, Nat.reduceLT, Int.reduceLE, Int.reduceLT, Int.reduceEq, Nat.reduceBEq, Nat.reduceEqDiff, c1, c2]
      exact h s mid' B' hE' hR' hlen hkeep
  · have c1 : ((k : Int) < (ps.length : Int)) = False := eq_false (by omega)
    simp only [go_sem, reduceCtorEq, Nat.reduceAdd, Nat.reduceMul, Nat.reduceLeDiff, Nat.reduceLT, Int.reduceLE, Int.reduceLT, Int.reduceEq, Nat.reduceBEq, Nat.reduceEqDiff, c1]
    exact h s mid' B' hE' hR' hlen hkeep

end Go.Proofs
