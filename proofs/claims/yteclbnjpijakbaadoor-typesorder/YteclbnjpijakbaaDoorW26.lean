/- The document: which variables are met (F51). -/
import Derived.Test.YteclbnjpijakbaaDoorM10
set_option linter.unusedSimpArgs false
set_option linter.unusedVariables false
set_option maxRecDepth 8000
namespace Go.Proofs
open Go Go.AL

def mkv (w : Int) : Ty := .mk w ⟨#[]⟩ []

/-- What is known of the variables that were met ahead: whether x is in one of them is settled, or it is looked at still. -/
structure PreR (B : Bd) (x : Int) (n nR : Nat) (l : List Int) : Prop where
  pre : ∀ w ∈ l, x ∈ l ∨ x ∉ vsT (AP B (mkv w)) ∨ ¬ En B n (mkv w)
  nodup : l.Nodup
  rg : ∀ w ∈ l, 1 ≤ w ∧ w ≤ (nR : Int)
structure ReP (B : Bd) (x : Int) (nR : Nat) (l : List Int) (V : List Int) (L : List Int) : Prop where
  sub : ∀ v ∈ l, v ∈ L
  iff : x ∈ L ↔ x ∈ l ∨ x ∈ V
  new : ∀ w ∈ L, w ∈ l ∨ x ∈ L ∨ x ∉ vsT (AP B (mkv w))
  nodup : L.Nodup
  rg : ∀ w ∈ L, 1 ≤ w ∧ w ≤ (nR : Int)

theorem PreR.down {B : Bd} {x : Int} {n nR : Nat} {l : List Int} (h : PreR B x (n + 1) nR l) : PreR B x n nR l :=
  ⟨fun w hw => (h.pre w hw).imp (fun q => q) fun q => q.imp (fun q => q) fun q e => q (e.mono (Nat.le_succ _)).1, h.nodup, h.rg⟩
theorem rg_len {nR : Nat} {l : List Int} (h1 : l.Nodup) (h2 : ∀ w ∈ l, 1 ≤ w ∧ w ≤ (nR : Int)) : l.length ≤ nR := by
  have := nodup_len l ((List.range nR).map fun (i : Nat) => (i : Int) + 1) h1 fun v hv => by
    obtain ⟨q1, q2⟩ := h2 v hv
    exact List.mem_map.2 ⟨v.toNat - 1, by rw [List.mem_range]; omega, by omega⟩
  simpa using this
theorem PreR.next {B : Bd} {x : Int} {n nR : Nat} {l V L : List Int} (h : PreR B x (n + 1) nR l) (k : ReP B x nR l V L) : PreR B x n nR L :=
  ⟨fun w hw => by
    rcases k.new w hw with q | q | q
    · rcases (h.down).pre w q with r | r | r
      · exact .inl (k.sub x r)
      · exact .inr (.inl r)
      · exact .inr (.inr r)
    · exact .inl q
    · exact .inr (.inl q), k.nodup, k.rg⟩

noncomputable def body51 : Code := (((Tryd.prog.funcs[51]?).bind (·.body)).getD .skip)
theorem body51_eq {fn : Func} {c : Code} (hf : Tryd.prog.funcs[51]? = some fn) (hb : fn.body = some c) : body51 = c := by
  unfold body51; rw [hf]; simp [hb]
noncomputable def rest51 : Code := tlC body51
theorem body51_shape : body51 = .seq (hdC body51) rest51 := by
  have hb := body51_eq Tryd.func51 rfl
  unfold rest51
  rw [hb]; rfl
def fr51 (id : Nat) (v : SV) (p : Nat) : List SV := [.ptr id 0, .any, v, .any, .ptr p 0, .any, .any, .any, .any, .any, .any, .any, .any, .any, .any, .any, .any, .any, .any, .any, .any, .any, .any, .any, .any, .any, .any, .any, .any, .any, .any, .any, .any, .any, .any, .any, .any, .any, .any, .any, .any, .any, .any, .any, .any, .any, .any, .any, .any, .any, .any, .any, .any, .any, .any, .any, .any, .any, .any, .any, .any, .any, .any, .any, .any, .any, .any, .any, .any]
theorem retR6x {K : SV → St → Prop} {env : List SV} {s : St} {x : SV} (h6 : env.getD 6 .any = x) (h : K x s) : RetR Tryd.prog #[ResultVar.tmp 6].toList K .ret env s := by
  subst h6
  exact ⟨rfl, h⟩

set_option maxHeartbeats 4000000 in
theorem rest51_c {id a b va vb : Nat} {R : List (Option Ty)} (hn : R.length ≤ 1000) (hB : BG R.length (gR R)) (hS : Sm (gR R)) {x : Int} (hx : gR R x = none) {n : Nat} {t : Ty} (hE1 : En (gR R) (n + 1) t) (hE0 : ¬ En (gR R) n t) (hg : goodB (ownP R.length) t = true) (hnd : nd t ≤ 1000)
    {l : List Int} {tid p : Nat} {s : St} (hR : RSt s id a b va vb R) (hP : PreR (gR R) x (n + 1) R.length l) (hk : s[tid]? = some (.tok l.length))
    (e0 : s[p]? = some (.cells [.sc (.int .i64 t.v), .sc (.string t.name), .slice .imm 3 (t.args.map tySV)]))
    (ih : ∀ (t : Ty) (l : List Int) (K : SV → St → Prop) (s1 : St), En (gR R) n t → goodB (ownP R.length) t = true → nd t ≤ 1000 → RSt s1 id a b va vb R → PreR (gR R) x n R.length l → s1[tid]? = some (.tok l.length) →
      (∀ s' L, ReP (gR R) x R.length l (vsT (AP (gR R) t)) L → Gs [tid] s1 s' → s'[tid]? = some (.tok L.length) → K (.slice (.own tid L.length) 1 (L.map i64V)) s') → ACalls Tryd.prog 51 [.ptr id 0, tySV t, .slice (.own tid l.length) 1 (l.map i64V)] K s1)
    (K : SV → St → Prop) (h : ∀ s' L, ReP (gR R) x R.length l (vsT (AP (gR R) t)) L → Gs [tid] s s' → s'[tid]? = some (.tok L.length) → K (.slice (.own tid L.length) 1 (L.map i64V)) s') :
    AWp Tryd.prog rest51 (RetR Tryd.prog #[ResultVar.tmp 6].toList K) (fr51 id (.slice (.own tid l.length) 1 (l.map i64V)) p) s := by
  have hb' := body51_eq Tryd.func51 rfl
  have hr : rest51 = _ := congrArg tlC hb'
  simp only [tlC] at hr
  rw [hr]
  clear hr hb'
  unfold fr51
  refine awp_c (M := []) ?_
  have f := cells_facts e0
  have ft := fun v' => tokAt_eq (v' := v') hk
  have hgd := good_gd hg
  have htp : tid ≠ p := by rintro rfl; have := hk.symm.trans e0; cases this
  have hti : tid ≠ id := by rintro rfl; have := hk.symm.trans hR.hid; cases this
  have hta : tid ≠ a := by rintro rfl; have := hk.symm.trans hR.ha; cases this
  have htb : tid ≠ b := by rintro rfl; have := hk.symm.trans hR.hb; cases this
  have keepR : ∀ s', Gs [tid] s s' → RSt s' id a b va vb R := fun s' hG =>
    ⟨(hG.same _ (lt_of_get hR.hid) (by simp; exact hti.symm)).trans hR.hid, (hG.same _ (lt_of_get hR.ha) (by simp; exact hta.symm)).trans hR.ha, (hG.same _ (lt_of_get hR.hb) (by simp; exact htb.symm)).trans hR.hb, hR.ne⟩
  by_cases hv : t.v = 0
  · have c0 : (t.v != 0) = false := by simp [hv]
    have hal : t.args.length ≤ 1000 := by have := nd_eq t; have := len_nd t.args; omega
    have hEa : ∀ a ∈ t.args, En (gR R) n a := by rw [en_con hv] at hE1; exact hE1
    have hAP : vsT (AP (gR R) t) = vsL (t.args.map (AP (gR R))) := by rw [AP_con hB.ends hgd hv, vs_con rfl]; rfl
    simp only [go_sem, reduceCtorEq, Nat.reduceAdd, Nat.reduceMul, Nat.reduceLeDiff, Nat.reduceLT, Int.reduceLE, Int.reduceLT, Int.reduceEq, Nat.reduceBEq, Nat.reduceEqDiff, f.1, f.2.1, f.2.2, c0]
    refine awp_rounds [] (fun m e s1 => ∃ (k : Nat) (l1 : List Int), m + k = t.args.length ∧ ReP (gR R) x R.length l (vsL ((t.args.take k).map (AP (gR R)))) l1 ∧ Gs [tid] s s1 ∧ s1[tid]? = some (.tok l1.length) ∧ s1[p]? = s[p]? ∧
      e = [.ptr id 0, .any, .slice (.own tid l1.length) 1 (l1.map i64V), .any, .ptr p 0, .any, .any, .any, .sc (.int .i64 k), .any, .any, .any, .any, .any, .any, .any, .any, .any, .any, .any, .any, .any, .any, .any, .any, .any, .any, .any, .any, .any, .any, .any, .any, .any, .any, .any, .any, .any, .any, .any, .any, .any, .any, .any, .any, .any, .any, .any, .any, .any, .any, .any, .any, .any, .any, .any, .any, .any, .any, .any, .any, .any, .any, .any, .any, .any, .any, .any, .any]) (n := t.args.length) ?_ ⟨0, l, by omega, ⟨fun v q => q, by simp [vsL], fun w q => .inl q, hP.nodup, hP.rg⟩, Gs.refl _ s, hk, rfl, rfl⟩ ?_
    · repeat (first | exact leEnv_nil | refine leEnv_any _ ?_ | refine leEnv_same _ ?_ | refine leEnv_norm _ ?_)
    rintro m e s1 ⟨k, l1, hmk, hl1, hG, hk1, hp1, rfl⟩
    have f1 := cells_facts (hp1.trans e0)
    by_cases hlt : k < t.args.length
    · have c1 : (k : Int) < (t.args.length : Int) := by omega
      have c2 : (0 : Int) ≤ (k : Int) := by omega
      have hw := wrapS k (by omega)
      obtain ⟨y, had⟩ : ∃ y, y = t.args.getD k default := ⟨_, rfl⟩
      have hgk : (t.args.map tySV).getD k .any = tySV y := by rw [had]; exact getD_mapT _ hlt
      have ham : y ∈ t.args := by rw [had]; simp [List.getD_eq_getElem?_getD, hlt]
      have htk : t.args.take (k + 1) = t.args.take k ++ [y] := by rw [take_snocT _ hlt, ← had]
      have hrec := fun K h => ih y l1 K s1 (hEa y ham) (gp_args hg hv y ham) (by have := nd_mem ham; have := nd_eq t; omega) (keepR s1 hG) (hP.next hl1) hk1 h
      simp only [go_sem, reduceCtorEq, Nat.reduceAdd, Nat.reduceMul, Nat.reduceLeDiff, Nat.reduceLT, Int.reduceLE, Int.reduceLT, Int.reduceEq, Nat.reduceBEq, Nat.reduceEqDiff, c1, c2, hgk, f1.1, f1.2.1, f1.2.2]
      refine hrec _ (fun s' L hL hG3 hk3 => ?_)
      simp only [go_sem, reduceCtorEq, Nat.reduceAdd, Nat.reduceMul, Nat.reduceLeDiff, Nat.reduceLT, Int.reduceLE, Int.reduceLT, Int.reduceEq, Nat.reduceBEq, Nat.reduceEqDiff, hw]
      refine ⟨m - 1, _, by omega, ?_, k + 1, L, by omega, ⟨fun v q => hL.sub v (hl1.sub v q), ?_, fun w q => ?_, hL.nodup, hL.rg⟩, hG.trans hG3, hk3, ?_, rfl⟩
      · repeat (first | exact leEnv_nil | refine leEnv_any _ ?_ | refine leEnv_same _ ?_ | refine leEnv_norm _ ?_)
      · rw [hL.iff, hl1.iff, htk, List.map_append, mem_vsL, mem_vsL]
        constructor
        · rintro ((q | ⟨c, q1, q2⟩) | q)
          · exact .inl q
          · exact .inr ⟨c, List.mem_append_left _ q1, q2⟩
          · exact .inr ⟨_, List.mem_append_right _ (by simp), q⟩
        · rintro (q | ⟨c, q1, q2⟩)
          · exact .inl (.inl q)
          · rcases List.mem_append.1 q1 with r | r
            · exact .inl (.inr ⟨c, r, q2⟩)
            · simp at r; subst r; exact .inr q2
      · rcases hL.new w q with r | r | r
        · rcases hl1.new w r with z | z | z
          · exact .inl z
          · exact .inr (.inl (hL.sub x z))
          · exact .inr (.inr z)
        · exact .inr (.inl r)
        · exact .inr (.inr r)
      · rw [hG3.same p (by have := lt_of_get (hp1.trans e0); omega) (by simp; exact fun q => htp q.symm)]; exact hp1
    · obtain rfl : k = t.args.length := by omega
      rw [List.take_length, ← hAP] at hl1
      simp only [go_sem, reduceCtorEq, Nat.reduceAdd, Nat.reduceMul, Nat.reduceLeDiff, Nat.reduceLT, Int.reduceLE, Int.reduceLT, Int.reduceEq, Nat.reduceBEq, Nat.reduceEqDiff, Int.lt_irrefl, f1.1, f1.2.1, f1.2.2]
      exact h s1 l1 hl1 hG hk1
  · have c0 : (t.v != 0) = true := by simp [hv]
    have ro := gp_var hg hv
    have htv := gd_var hgd hv
    have hll := rg_len hP.nodup hP.rg
    simp only [go_sem, reduceCtorEq, Nat.reduceAdd, Nat.reduceMul, Nat.reduceLeDiff, Nat.reduceLT, Int.reduceLE, Int.reduceLT, Int.reduceEq, Nat.reduceBEq, Nat.reduceEqDiff, f.1, f.2.1, f.2.2, c0]
    refine awp_rounds [] (fun m e s1 => ∃ k : Nat, m + k = l.length ∧ s1 = s ∧ (∀ j, j < k → l.getD j 0 ≠ t.v) ∧
      e = [.ptr id 0, .any, .slice (.own tid l.length) 1 (l.map i64V), .any, .ptr p 0, .any, .any, .sc (.int .i64 k), .any, .any, .any, .any, .any, .any, .any, .any, .any, .any, .any, .any, .any, .any, .any, .any, .any, .any, .any, .any, .any, .any, .any, .any, .any, .any, .any, .any, .any, .any, .any, .any, .any, .any, .any, .any, .any, .any, .any, .any, .any, .any, .any, .any, .any, .any, .any, .any, .any, .any, .any, .any, .any, .any, .any, .any, .any, .any, .any, .any, .any]) (n := l.length) ?_ ⟨0, by omega, rfl, fun j hj => by omega, rfl⟩ ?_
    · repeat (first | exact leEnv_nil | refine leEnv_any _ ?_ | refine leEnv_same _ ?_ | refine leEnv_norm _ ?_)
    rintro m e s1 ⟨k, hmk, rfl, hno, rfl⟩
    by_cases hlt : k < l.length
    · have c1 : (k : Int) < (l.length : Int) := by omega
      have c2 : (0 : Int) ≤ (k : Int) := by omega
      have hw := wrapS k (by omega)
      by_cases hxk : l.getD k 0 = t.v
      · have c3 : (l.getD k 0 == t.v) = true := by rw [hxk]; exact beq_self_eq_true _
        have hm : t.v ∈ l := by rw [← hxk]; simp [List.getD_eq_getElem?_getD, hlt]
        simp only [go_sem, reduceCtorEq, Nat.reduceAdd, Nat.reduceMul, Nat.reduceLeDiff, Nat.reduceLT, Int.reduceLE, Int.reduceLT, Int.reduceEq, Nat.reduceBEq, Nat.reduceEqDiff, c1]
        refine awp_draw [] Tryd.mixed rfl ?_
        simp only [go_sem, reduceCtorEq, Nat.reduceAdd, Nat.reduceMul, Nat.reduceLeDiff, Nat.reduceLT, Int.reduceLE, Int.reduceLT, Int.reduceEq, Nat.reduceBEq, Nat.reduceEqDiff, f.1, f.2.1, f.2.2, c1, c2, getD_i64 hlt, i64V_eq, Int.toNat_natCast, c3]
        refine h _ l ⟨fun v q => q, ⟨.inl, fun q => ?_⟩, fun w q => .inl q, hP.nodup, hP.rg⟩ (Gs.refl _ _) hk
        rcases q with q | q
        · exact q
        · rcases hP.pre _ hm with r | r | r
          · exact r
          · exact absurd (by rw [htv] at q; exact q) r
          · exact absurd (by rw [htv] at hE1; exact hE1) r
      · have c3 : (l.getD k 0 == t.v) = false := beq_eq_false_iff_ne.2 hxk
        simp only [go_sem, reduceCtorEq, Nat.reduceAdd, Nat.reduceMul, Nat.reduceLeDiff, Nat.reduceLT, Int.reduceLE, Int.reduceLT, Int.reduceEq, Nat.reduceBEq, Nat.reduceEqDiff, c1]
        refine awp_draw [] Tryd.mixed rfl ?_
        simp only [go_sem, reduceCtorEq, Nat.reduceAdd, Nat.reduceMul, Nat.reduceLeDiff, Nat.reduceLT, Int.reduceLE, Int.reduceLT, Int.reduceEq, Nat.reduceBEq, Nat.reduceEqDiff, f.1, f.2.1, f.2.2, c1, c2, getD_i64 hlt, i64V_eq, Int.toNat_natCast, c3, hw]
        refine ⟨m - 1, _, by omega, ?_, k + 1, by omega, fun j hj => ?_, rfl⟩
        · repeat (first | exact leEnv_nil | refine leEnv_any _ ?_ | refine leEnv_same _ ?_ | refine leEnv_norm _ ?_)
        · rcases Nat.lt_or_ge j k with q | q
          · exact hno j q
          · obtain rfl : j = k := by omega
            exact hxk
    · obtain rfl : k = l.length := by omega
      have hm : t.v ∉ l := fun q => by
        obtain ⟨i, hi, e⟩ := List.mem_iff_getElem.1 q
        refine hno i hi ?_
        simp [List.getD_eq_getElem?_getD, hi, e]
      have e1 : (l ++ [t.v]).length = l.length + 1 := by simp
      have e2 : (l ++ [t.v]).map i64V = l.map i64V ++ [.sc (.int .i64 t.v)] := by simp [i64V]
      have hnod : (l ++ [t.v]).Nodup := by
        rw [List.nodup_append]
        exact ⟨hP.nodup, by simp, fun a ha b hb => by rw [List.mem_singleton.1 hb]; rintro rfl; exact hm ha⟩
      have hrg : ∀ w ∈ l ++ [t.v], 1 ≤ w ∧ w ≤ (R.length : Int) := fun w q => by
        rcases List.mem_append.1 q with q | q
        · exact hP.rg w q
        · rw [List.mem_singleton.1 q]; exact ro
      obtain ⟨s2, hs2⟩ : ∃ s2, s1.set tid (.tok (l.length + 1)) = s2 := ⟨_, rfl⟩
      have hG2 : Gs [tid] s1 s2 := by rw [← hs2]; exact (Gs.refl _ _).set (.inr (by simp)) _
      have hR2 := keepR s2 hG2
      have hk2 : s2[tid]? = some (.tok (l.length + 1)) := by rw [← hs2]; exact List.getElem?_set_self (lt_of_get hk)
      have e02 : s2[p]? = some (.cells [.sc (.int .i64 t.v), .sc (.string t.name), .slice .imm 3 (t.args.map tySV)]) := by rw [← hs2, List.getElem?_set_ne htp]; exact e0
      have f2 := cells_facts e02
      have hi2 := cells_facts hR2.hid
      have fa := arr_facts hR2.ha
      have fb := arr_facts hR2.hb
      obtain ⟨q, hq⟩ : ∃ q : Nat, t.v = (q : Int) + 1 := ⟨t.v.toNat - 1, by omega⟩
      have hw1 : IntKind.i64.wrap (t.v - 1) = (q : Int) := by rw [IntWalk.i64_in _ (by omega)]; omega
      have hql : q < R.length := by omega
      have d1 : (q : Int) < (R.length : Int) := by omega
      have d0 : (0 : Int) ≤ (q : Int) := by omega
      have happ := app54 (n := l.length + 1) (by omega)
      have hgr : gR R t.v = R.getD q none := by
        unfold gR
        rw [if_pos (by omega), hq]
        congr 1
      have hbit := bit_at hql
      simp only [go_sem, reduceCtorEq, Nat.reduceAdd, Nat.reduceMul, Nat.reduceLeDiff, Nat.reduceLT, Int.reduceLE, Int.reduceLT, Int.reduceEq, Nat.reduceBEq, Nat.reduceEqDiff, Int.lt_irrefl, f.1, f.2.1, f.2.2, ft, hs2]
      refine ⟨happ, ?_⟩
      refine awp_draw [] Tryd.mixed rfl ?_
      simp only [go_sem, reduceCtorEq, Nat.reduceAdd, Nat.reduceMul, Nat.reduceLeDiff, Nat.reduceLT, Int.reduceLE, Int.reduceLT, Int.reduceEq, Nat.reduceBEq, Nat.reduceEqDiff, f2.1, f2.2.1, f2.2.2, hi2.1, hi2.2.1, hi2.2.2, hw1, d0, d1, fb.1, fb.2.1, fb.2.2.1, fb.2.2.2, hbit]
      refine ⟨fun hs => ?_, fun hs => ?_⟩
      · obtain ⟨c, hc⟩ : ∃ c, R.getD q none = some c := Option.isSome_iff_exists.1 hs
        rw [hc] at hgr
        have hty := ty_at hql hc
        have hgc := hB.gp _ _ hgr
        have hxv : x ≠ t.v := fun e => by rw [e, hgr] at hx; cases hx
        have hAPb : AP (gR R) t = AP (gR R) c := AP_bound hB.ends hv hgr (good_gd hgc)
        have hpre : ∀ w ∈ l ++ [t.v], x ∈ l ++ [t.v] ∨ x ∉ vsT (AP (gR R) (mkv w)) ∨ ¬ En (gR R) n (mkv w) := fun w hw => by
          rcases List.mem_append.1 hw with r | r
          · rcases hP.down.pre w r with z | z | z
            · exact .inl (List.mem_append_left _ z)
            · exact .inr (.inl z)
            · exact .inr (.inr z)
          · rw [List.mem_singleton.1 r]
            exact .inr (.inr (by rw [htv] at hE0; exact hE0))
        have hrec := fun K h => ih c (l ++ [t.v]) K s2 (by rw [en_bound hv hgr] at hE1; exact hE1) hgc (hS _ _ hgr) hR2 ⟨hpre, hnod, hrg⟩ (by rw [e1]; exact hk2) h
        rw [e1, e2] at hrec
        refine awp_drawN [] 11 Tryd.mixed rfl rfl ?_
        simp only [go_sem, reduceCtorEq, Nat.reduceAdd, Nat.reduceMul, Nat.reduceLeDiff, Nat.reduceLT, Int.reduceLE, Int.reduceLT, Int.reduceEq, Nat.reduceBEq, Nat.reduceEqDiff, f2.1, f2.2.1, f2.2.2, hi2.1, hi2.2.1, hi2.2.2, hw1, d0, d1, fa.1, fa.2.1, fa.2.2.1, fa.2.2.2, hty]
        refine hrec _ (fun s' L hL hG3 hk3 => ?_)
        simp only [go_sem, reduceCtorEq, Nat.reduceAdd, Nat.reduceMul, Nat.reduceLeDiff, Nat.reduceLT, Int.reduceLE, Int.reduceLT, Int.reduceEq, Nat.reduceBEq, Nat.reduceEqDiff]
        have hiff : x ∈ L ↔ x ∈ l ∨ x ∈ vsT (AP (gR R) t) := by
          rw [hL.iff, hAPb]
          constructor
          · rintro (z | z)
            · rcases List.mem_append.1 z with y | y
              · exact .inl y
              · exact absurd (List.mem_singleton.1 y) hxv
            · exact .inr z
          · exact fun z => z.imp (List.mem_append_left _) fun y => y
        refine h s' L ⟨fun v z => hL.sub v (List.mem_append_left _ z), hiff, fun w z => ?_, hL.nodup, hL.rg⟩ (hG2.trans hG3) hk3
        rcases hL.new w z with y | y | y
        · rcases List.mem_append.1 y with u | u
          · exact .inl u
          · rw [List.mem_singleton.1 u]
            by_cases hin : x ∈ L
            · exact .inr (.inl hin)
            · refine .inr (.inr fun g => hin (hiff.2 (.inr ?_)))
              rw [htv]; exact g
        · exact .inr (.inl y)
        · exact .inr (.inr y)
      · have hc : R.getD q none = none := by simpa using hs
        rw [hc] at hgr
        have hAPf := AP_free hgd hv hgr
        have hfin := h s2 (l ++ [t.v]) ⟨fun v z => List.mem_append_left _ z, ?_, fun w z => ?_, hnod, hrg⟩ hG2 (by rw [e1]; exact hk2)
        · rw [e1, e2] at hfin; exact hfin
        · rw [hAPf, vs_var hv, List.mem_append]
        · rcases List.mem_append.1 z with y | y
          · exact .inl y
          · rw [List.mem_singleton.1 y]
            by_cases hin : x ∈ l ++ [t.v]
            · exact .inr (.inl hin)
            · refine .inr (.inr fun g => hin (List.mem_append_right _ ?_))
              have : AP (gR R) (mkv t.v) = t := by
                have := hAPf
                rw [htv] at this
                rw [htv]; exact this
              rw [this, vs_var hv] at g
              exact g

theorem reach_c {id a b va vb : Nat} {R : List (Option Ty)} (hn : R.length ≤ 1000) (hB : BG R.length (gR R)) (hS : Sm (gR R)) {x : Int} (hx : gR R x = none) {tid : Nat} : ∀ (n : Nat) (t : Ty) (l : List Int) (K : SV → St → Prop) (st : St), En (gR R) n t → goodB (ownP R.length) t = true → nd t ≤ 1000 → RSt st id a b va vb R → PreR (gR R) x n R.length l → st[tid]? = some (.tok l.length) →
      (∀ s' L, ReP (gR R) x R.length l (vsT (AP (gR R) t)) L → Gs [tid] st s' → s'[tid]? = some (.tok L.length) → K (.slice (.own tid L.length) 1 (L.map i64V)) s') → ACalls Tryd.prog 51 [.ptr id 0, tySV t, .slice (.own tid l.length) 1 (l.map i64V)] K st := by
  intro n
  induction n with
  | zero => intro t l K st hE; exact hE.elim
  | succ n ih =>
    intro t l K st hE hg hnd hR hP hk h
    by_cases hE0 : En (gR R) n t
    · exact ih t l K st hE0 hg hnd hR hP.down hk h
    refine acalls_goA (c := body51) Tryd.func51 (by rw [body51_eq Tryd.func51 rfl]; rfl) Tryd.results51 Tryd.ntmps51 ?_
    rw [body51_shape]
    have hca := cells_ty t
    obtain ⟨s1, hs1⟩ : ∃ s1, st ++ [Ob.cells (tySV t).cells] = s1 := ⟨_, rfl⟩
    have e0 : s1[st.length]? = some (.cells (tySV t).cells) := by rw [← hs1]; simp
    have hk1 : s1[tid]? = some (.tok l.length) := by rw [← hs1]; exact (List.getElem?_append_left (lt_of_get hk)).trans hk
    have hG1 : Gs [tid] st s1 := by rw [← hs1]; exact (Gs.refl _ st).app _
    have hR1 : RSt s1 id a b va vb R := by rw [← hs1]; exact hR.app _
    rw [hca] at e0
    refine awp_seq (AWp.mono (Q := fun e env s => e = .normal ∧ LeEnv env (fr51 id (.slice (.own tid l.length) 1 (l.map i64V)) st.length) ∧ s = s1) ?_ ?_)
    · rw [body51_eq Tryd.func51 rfl]
      simp only [hdC]
      refine awp_c (M := [4]) ?_
      unfold fr51
      simp only [go_sem, reduceCtorEq, Nat.reduceAdd, Nat.reduceMul, Nat.reduceLeDiff, Nat.reduceLT, Int.reduceLE, Int.reduceLT, Int.reduceEq, Nat.reduceBEq, Nat.reduceEqDiff, hs1]
      repeat (first | exact leEnv_nil | refine leEnv_any _ ?_ | refine leEnv_same _ ?_ | refine leEnv_norm _ ?_)
    rintro e env s ⟨rfl, hle, rfl⟩
    show AWp _ _ _ _ _
    refine awp_weaken hle ?_
    exact rest51_c hn hB hS hx hE hE0 hg hnd hR1 hP hk1 e0 ih K fun s' L h1 h2 h3 => h s' L h1 (hG1.trans (h2.mono fun j hj => .inr hj)) h3

/-- Reach, from nothing: is x in what a type is? -/
theorem reach0_c {id a b va vb : Nat} {R : List (Option Ty)} (hn : R.length ≤ 1000) (hB : BG R.length (gR R)) (hS : Sm (gR R)) {x : Int} (hx : gR R x = none) (t : Ty) (hg : goodB (ownP R.length) t = true) (hnd : nd t ≤ 1000) (K : SV → St → Prop) (st : St) (hR : RSt st id a b va vb R)
    (h : ∀ L : List Int, L.length ≤ 1000 → (x ∈ L ↔ x ∈ vsT (AP (gR R) t)) → K (.slice .imm 1 (L.map i64V)) st) : ACalls Tryd.prog 51 [.ptr id 0, tySV t, .slice .full 0 []] K st := by
  obtain ⟨n, hE⟩ := hB.ends.all (good_gd hg)
  have hmin : ∃ n, En (gR R) (n + 1) t ∧ ¬ En (gR R) n t := by
    induction n with
    | zero => exact hE.elim
    | succ n ih =>
      by_cases h0 : En (gR R) n t
      · exact ih h0
      · exact ⟨n, hE, h0⟩
  obtain ⟨n, hE, hE0⟩ := hmin
  refine acalls_pure ?_
  refine acalls_goA (c := body51) Tryd.func51 (by rw [body51_eq Tryd.func51 rfl]; rfl) Tryd.results51 Tryd.ntmps51 ?_
  rw [body51_shape]
  have hca := cells_ty t
  obtain ⟨s1, hs1⟩ : ∃ s1, st ++ [Ob.cells (tySV t).cells] = s1 := ⟨_, rfl⟩
  have e0 : s1[st.length]? = some (.cells (tySV t).cells) := by rw [← hs1]; simp
  have hG1 : Gs [] st s1 := by rw [← hs1]; exact (Gs.refl _ st).app _
  have hl1 : s1.length = st.length + 1 := by rw [← hs1]; simp
  have hR1 : RSt s1 id a b va vb R := by rw [← hs1]; exact hR.app _
  rw [hca] at e0
  refine awp_seq (AWp.mono (Q := fun e env s => e = .normal ∧ LeEnv env (fr51 id (.slice .full 0 []) st.length) ∧ s = s1) ?_ ?_)
  · rw [body51_eq Tryd.func51 rfl]
    simp only [hdC]
    refine awp_c (M := [4]) ?_
    unfold fr51
    simp only [go_sem, reduceCtorEq, Nat.reduceAdd, Nat.reduceMul, Nat.reduceLeDiff, Nat.reduceLT, Int.reduceLE, Int.reduceLT, Int.reduceEq, Nat.reduceBEq, Nat.reduceEqDiff, hs1]
    repeat (first | exact leEnv_nil | refine leEnv_any _ ?_ | refine leEnv_same _ ?_ | refine leEnv_norm _ ?_)
  rintro e env s ⟨rfl, hle, rfl⟩
  show AWp _ _ _ _ _
  refine awp_weaken hle (awp_own 2 1 0 rfl ?_)
  refine rest51_c (l := []) (tid := s.length) hn hB hS hx hE hE0 hg hnd (hR1.app _) ⟨fun w hw => (by cases hw), List.nodup_nil, fun w hw => (by cases hw)⟩ (by simp) ((List.getElem?_append_left (lt_of_get e0)).trans e0) (reach_c hn hB hS hx n) _ fun s' L h1 h2 h3 => ?_
  obtain ⟨ex, hex⟩ := Gs.ex ((hG1.app [.tok 0]).after h2 fun j hj => by simp at hj; subst hj; exact .inl (by omega))
  refine ⟨ex, hex, ids_i64 _ _, h L (by have := rg_len h1.nodup h1.rg; omega) ?_⟩
  rw [h1.iff]; simp

end Go.Proofs
