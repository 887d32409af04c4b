/- The document: unify, its pieces (F38). -/
import Derived.Test.YteclbnjpijakbaaDoorW26
set_option linter.unusedSimpArgs false
set_option linter.unusedVariables false
set_option maxRecDepth 8000
namespace Go.Proofs
open Go Go.AL

def pairV (k : Int × Int) : SV := .agg [.sc (.int .i64 k.1), .sc (.int .i64 k.2)]
def prsV (tid : Nat) (Q : List (Int × Int)) : SV := .slice (.own tid Q.length) 2 (Q.map pairV)
theorem app67 {n : Nat} (h : n ≤ 1000000) : AppOk Tryd.prog 67 67 2 n := appOk_of Tryd.aelem67 Tryd.aelem67 Tryd.asize79 Tryd.azero79 rfl Tryd.abytes79 (by omega) h

theorem nodup_lenG {α : Type} [DecidableEq α] : ∀ (l m : List α), l.Nodup → (∀ v ∈ l, v ∈ m) → l.length ≤ m.length
  | [], m, _, _ => Nat.zero_le _
  | a :: r, m, hn, hs => by
    rw [List.nodup_cons] at hn
    have ha := hs a (by simp)
    have := nodup_lenG r (m.erase a) hn.2 fun v hv => by
      rw [List.mem_erase_of_ne (by rintro rfl; exact hn.1 hv)]
      exact hs v (by simp [hv])
    rw [List.length_erase_of_mem ha] at this
    have := List.length_pos_of_mem ha
    simp only [List.length_cons]
    omega

/-- Pairs that are kept in mind: each once, of the state's variables. -/
structure QG (nR : Nat) (Q : List (Int × Int)) : Prop where
  nodup : Q.Nodup
  rg : ∀ k ∈ Q, (1 ≤ k.1 ∧ k.1 ≤ (nR : Int)) ∧ (1 ≤ k.2 ∧ k.2 ≤ (nR : Int))
theorem QG.len {nR : Nat} {Q : List (Int × Int)} (h : QG nR Q) (hn : nR ≤ 100) : Q.length ≤ 10000 := by
  have := nodup_lenG Q ((List.range nR).flatMap fun (i : Nat) => (List.range nR).map fun (j : Nat) => (((i : Int) + 1, (j : Int) + 1) : Int × Int)) h.nodup fun v hv => by
    obtain ⟨q1, q2⟩ := h.rg v hv
    refine List.mem_flatMap.2 ⟨v.1.toNat - 1, by rw [List.mem_range]; omega, List.mem_map.2 ⟨v.2.toNat - 1, by rw [List.mem_range]; omega, ?_⟩⟩
    apply Prod.ext
    · show ((v.1.toNat - 1 : Nat) : Int) + 1 = v.1; omega
    · show ((v.2.toNat - 1 : Nat) : Int) + 1 = v.2; omega
  have e : ((List.range nR).flatMap fun (i : Nat) => (List.range nR).map fun (j : Nat) => (((i : Int) + 1, (j : Int) + 1) : Int × Int)).length = nR * nR := by
    rw [List.length_flatMap]
    simp only [List.length_map, List.length_range, List.map_const', List.sum_replicate_nat]
  rw [e] at this
  have := Nat.mul_le_mul hn hn
  omega

noncomputable def bodyV : Code := (((Tryd.prog.funcs[38]?).bind (·.body)).getD .skip)
theorem bodyV_eq {fn : Func} {c : Code} (hf : Tryd.prog.funcs[38]? = some fn) (hb : fn.body = some c) : bodyV = c := by
  unfold bodyV; rw [hf]; simp [hb]
noncomputable def mV : Code := hdC (tlC bodyV)
noncomputable def h8 : Code := hdC (tlC (tlC bodyV))
noncomputable def h9 : Code := hdC (tlC (tlC (tlC bodyV)))
noncomputable def sV : Code := hdC (tlC (tlC (tlC (tlC bodyV))))
noncomputable def wV : Code := hdC (tlC (tlC (tlC (tlC (tlC bodyV)))))
noncomputable def bV : Code := hdC (tlC (tlC (tlC (tlC (tlC (tlC bodyV))))))
noncomputable def dV : Code := hdC (tlC (tlC (tlC (tlC (tlC (tlC (tlC bodyV)))))))
noncomputable def lV : Code := tlC (tlC (tlC (tlC (tlC (tlC (tlC (tlC bodyV)))))))
theorem bodyV_shape : bodyV = .seq (hdC bodyV) (.seq mV (.seq h8 (.seq h9 (.seq sV (.seq wV (.seq bV (.seq dV lV))))))) := by
  have hb := bodyV_eq Tryd.func38 rfl
  unfold mV h8 h9 sV wV bV dV lV
  rw [hb]; rfl
def frV (id : Nat) (v : SV) (p : Nat) : List SV := [.ptr id 0, .any, .any, v, .any, .ptr p 0, .ptr (p + 1) 0, .any, .any, .any, .any, .any, .any, .any, .any, .any, .any, .any, .any, .any, .any, .any, .any, .any, .any, .any, .any, .any, .any, .any, .any, .any, .any, .any, .any, .any, .any, .any, .any, .any, .any, .any, .any, .any, .any, .any, .any, .any, .any, .any, .any, .any, .any, .any, .any, .any, .any, .any, .any, .any, .any, .any, .any, .any, .any, .any, .any, .any, .any, .any, .any, .any, .any, .any, .any, .any, .any, .any, .any, .any, .any, .any, .any, .any, .any, .any, .any, .any, .any, .any, .any, .any, .any, .any, .any, .any, .any, .any, .any, .any, .any, .any, .any, .any, .any, .any, .any, .any, .any, .any, .any, .any, .any, .any, .any, .any, .any, .any, .any, .any, .any, .any, .any, .any, .any, .any, .any, .any, .any, .any, .any, .any, .any, .any, .any, .any, .any, .any, .any, .any, .any, .any, .any, .any, .any, .any, .any, .any, .any, .any, .any, .any, .any, .any, .any, .any, .any, .any, .any, .any, .any, .any, .any, .any, .any, .any]
theorem retR89 {K : SV → St → Prop} {env : List SV} {s : St} {x y : SV} (h8 : env.getD 8 .any = x) (h9 : env.getD 9 .any = y) (h : K (.tuple [x, y]) s) : RetR Tryd.prog #[ResultVar.tmp 8, ResultVar.tmp 9].toList K .ret env s := by
  subst h8 h9
  exact ⟨rfl, h⟩
theorem getD_pr {Q : List (Int × Int)} {k : Nat} (h : k < Q.length) : (Q.map pairV).getD k .any = pairV (Q.getD k (0, 0)) := by simp [List.getD_eq_getElem?_getD, h]

set_option maxHeartbeats 4000000 in
theorem mV_c {id tid : Nat} {nR : Nat} (hn : nR ≤ 100) {x y : Ty} {Q : List (Int × Int)} {s : St} {p : Nat} (ha : goodB (ownP nR) x = true) (hb : goodB (ownP nR) y = true)
    (hQ : QG nR Q) (hk : s[tid]? = some (.tok Q.length)) (e0 : s[p]? = some (.cells [.sc (.int .i64 x.v), .sc (.string x.name), .slice .imm 3 (x.args.map tySV)])) (e1 : s[p + 1]? = some (.cells [.sc (.int .i64 y.v), .sc (.string y.name), .slice .imm 3 (y.args.map tySV)]))
    (Z : Exit → List SV → St → Prop)
    (h1 : memo (hasQ Q) x y → ∀ env, env.getD 8 .any = prsV tid Q → env.getD 9 .any = .sc (.int .i64 0) → Z .ret env s)
    (h2 : ¬ memo (hasQ Q) x y → ∀ env s' Q0, LeEnv env (frV id (prsV tid Q0) p) → hasQ Q0 = addP (hasQ Q) x y → QG nR Q0 → Gs [tid] s s' → s'[tid]? = some (.tok Q0.length) → Z .normal env s') :
    AWp Tryd.prog mV Z (frV id (prsV tid Q) p) s := by
  have hb' := bodyV_eq Tryd.func38 rfl
  have hr : mV = _ := congrArg (fun c => hdC (tlC c)) hb'
  simp only [tlC, hdC] at hr
  rw [hr]
  clear hr hb'
  unfold frV prsV
  refine awp_c (M := []) ?_
  have f := cells_facts e0
  have g := cells_facts e1
  have hQl := hQ.len hn
  by_cases hxv : x.v = 0
  · have c0 : (x.v != 0) = false := by simp [hxv]
    simp only [go_sem, reduceCtorEq, Nat.reduceAdd, Nat.reduceMul, Nat.reduceLeDiff, Nat.reduceLT, Int.reduceLE, Int.reduceLT, Int.reduceEq, Nat.reduceBEq, Nat.reduceEqDiff, f.1, f.2.1, f.2.2, g.1, g.2.1, g.2.2, c0]
    refine h2 (fun h => h.1 hxv) _ s Q (by unfold frV prsV; repeat (first | exact leEnv_nil | refine leEnv_any _ ?_ | refine leEnv_same _ ?_ | refine leEnv_norm _ ?_)) ?_ hQ (Gs.refl _ _) hk
    funext u v
    unfold addP
    simp [hxv]
  · have c0 : (x.v != 0) = true := by simp [hxv]
    by_cases hyv : y.v = 0
    · have c1 : (y.v != 0) = false := by simp [hyv]
      simp only [go_sem, reduceCtorEq, Nat.reduceAdd, Nat.reduceMul, Nat.reduceLeDiff, Nat.reduceLT, Int.reduceLE, Int.reduceLT, Int.reduceEq, Nat.reduceBEq, Nat.reduceEqDiff, f.1, f.2.1, f.2.2, g.1, g.2.1, g.2.2, c0, c1]
      refine h2 (fun h => h.2.1 hyv) _ s Q (by unfold frV prsV; repeat (first | exact leEnv_nil | refine leEnv_any _ ?_ | refine leEnv_same _ ?_ | refine leEnv_norm _ ?_)) ?_ hQ (Gs.refl _ _) hk
      funext u v
      unfold addP
      simp [hyv]
    · have c1 : (y.v != 0) = true := by simp [hyv]
      have ra := gp_var ha hxv
      have rb := gp_var hb hyv
      have ft := fun v' => tokAt_eq (v' := v') hk
      simp only [go_sem, reduceCtorEq, Nat.reduceAdd, Nat.reduceMul, Nat.reduceLeDiff, Nat.reduceLT, Int.reduceLE, Int.reduceLT, Int.reduceEq, Nat.reduceBEq, Nat.reduceEqDiff, f.1, f.2.1, f.2.2, g.1, g.2.1, g.2.2, c0, c1]
      refine awp_rounds [] (fun m e s1 => ∃ k : Nat, m + k = Q.length ∧ s1 = s ∧ (∀ j, j < k → Q.getD j (0, 0) ≠ (x.v, y.v)) ∧
        e = [.ptr id 0, .any, .any, .slice (.own tid Q.length) 2 (Q.map pairV), .any, .ptr p 0, .ptr (p + 1) 0, .any, .any, .any, .sc (.int .i64 k), .any, .any, .any, .any, .any, .any, .any, .any, .any, .any, .any, .any, .any, .any, .any, .any, .any, .any, .any, .any, .any, .any, .any, .any, .any, .any, .any, .any, .any, .any, .any, .any, .any, .any, .any, .any, .any, .any, .any, .any, .any, .any, .any, .any, .any, .any, .any, .any, .any, .any, .any, .any, .any, .any, .any, .any, .any, .any, .any, .any, .any, .any, .any, .any, .any, .any, .any, .any, .any, .any, .any, .any, .any, .any, .any, .any, .any, .any, .any, .any, .any, .any, .any, .any, .any, .any, .any, .any, .any, .any, .any, .any, .any, .any, .any, .any, .any, .any, .any, .any, .any, .any, .any, .any, .any, .any, .any, .any, .any, .any, .any, .any, .any, .any, .any, .any, .any, .any, .any, .any, .any, .any, .any, .any, .any, .any, .any, .any, .any, .any, .any, .any, .any, .any, .any, .any, .any, .any, .any, .any, .any, .any, .any, .any, .any, .any, .any, .any, .any, .any, .any, .any, .any, .any, .any]) (n := Q.length) ?_ ⟨0, by omega, rfl, fun j hj => by omega, rfl⟩ ?_
      · repeat (first | exact leEnv_nil | refine leEnv_any _ ?_ | refine leEnv_same _ ?_ | refine leEnv_norm _ ?_)
      rintro m e s1 ⟨k, hmk, rfl, hno, rfl⟩
      by_cases hlt : k < Q.length
      · have d1 : (k : Int) < (Q.length : Int) := by omega
        have d0 : (0 : Int) ≤ (k : Int) := by omega
        have hw := wrapS k (by omega)
        obtain ⟨q, hq⟩ : ∃ q, Q.getD k (0, 0) = q := ⟨_, rfl⟩
        have hgk : (Q.map pairV).getD k .any = .agg [.sc (.int .i64 q.1), .sc (.int .i64 q.2)] := by rw [getD_pr hlt, hq]; rfl
        by_cases hx1 : q.1 = x.v
        · have c3 : (q.1 == x.v) = true := by rw [hx1]; exact beq_self_eq_true _
          by_cases hx2 : q.2 = y.v
          · have c4 : (q.2 == y.v) = true := by rw [hx2]; exact beq_self_eq_true _
            have hm : (x.v, y.v) ∈ Q := by
              have : q = (x.v, y.v) := Prod.ext hx1 hx2
              rw [← this, ← hq]; simp [List.getD_eq_getElem?_getD, hlt]
            simp only [go_sem, reduceCtorEq, Nat.reduceAdd, Nat.reduceMul, Nat.reduceLeDiff, Nat.reduceLT, Int.reduceLE, Int.reduceLT, Int.reduceEq, Nat.reduceBEq, Nat.reduceEqDiff, d1]
            refine awp_draw [] Tryd.mixed rfl ?_
            simp only [go_sem, reduceCtorEq, Nat.reduceAdd, Nat.reduceMul, Nat.reduceLeDiff, Nat.reduceLT, Int.reduceLE, Int.reduceLT, Int.reduceEq, Nat.reduceBEq, Nat.reduceEqDiff, f.1, f.2.1, f.2.2, g.1, g.2.1, g.2.2, d0, d1, hgk, c3, c4]
            exact h1 ⟨hxv, hyv, by unfold hasQ; simpa using hm⟩ _ rfl rfl
          · have c4 : (q.2 == y.v) = false := beq_eq_false_iff_ne.2 hx2
            simp only [go_sem, reduceCtorEq, Nat.reduceAdd, Nat.reduceMul, Nat.reduceLeDiff, Nat.reduceLT, Int.reduceLE, Int.reduceLT, Int.reduceEq, Nat.reduceBEq, Nat.reduceEqDiff, d1]
            refine awp_draw [] Tryd.mixed rfl ?_
            simp only [go_sem, reduceCtorEq, Nat.reduceAdd, Nat.reduceMul, Nat.reduceLeDiff, Nat.reduceLT, Int.reduceLE, Int.reduceLT, Int.reduceEq, Nat.reduceBEq, Nat.reduceEqDiff, f.1, f.2.1, f.2.2, g.1, g.2.1, g.2.2, d0, d1, hgk, c3, c4, hw]
            refine ⟨m - 1, _, by omega, ?_, k + 1, by omega, fun j hj => ?_, rfl⟩
            · repeat (first | exact leEnv_nil | refine leEnv_any _ ?_ | refine leEnv_same _ ?_ | refine leEnv_norm _ ?_)
            · rcases Nat.lt_or_ge j k with z | z
              · exact hno j z
              · obtain rfl : j = k := by omega
                rw [hq]; rintro rfl; exact hx2 rfl
        · have c3 : (q.1 == x.v) = false := beq_eq_false_iff_ne.2 hx1
          simp only [go_sem, reduceCtorEq, Nat.reduceAdd, Nat.reduceMul, Nat.reduceLeDiff, Nat.reduceLT, Int.reduceLE, Int.reduceLT, Int.reduceEq, Nat.reduceBEq, Nat.reduceEqDiff, d1]
          refine awp_draw [] Tryd.mixed rfl ?_
          simp only [go_sem, reduceCtorEq, Nat.reduceAdd, Nat.reduceMul, Nat.reduceLeDiff, Nat.reduceLT, Int.reduceLE, Int.reduceLT, Int.reduceEq, Nat.reduceBEq, Nat.reduceEqDiff, f.1, f.2.1, f.2.2, g.1, g.2.1, g.2.2, d0, d1, hgk, c3, hw]
          refine ⟨m - 1, _, by omega, ?_, k + 1, by omega, fun j hj => ?_, rfl⟩
          · repeat (first | exact leEnv_nil | refine leEnv_any _ ?_ | refine leEnv_same _ ?_ | refine leEnv_norm _ ?_)
          · rcases Nat.lt_or_ge j k with z | z
            · exact hno j z
            · obtain rfl : j = k := by omega
              rw [hq]; rintro rfl; exact hx1 rfl
      · obtain rfl : k = Q.length := by omega
        have happ := app67 (n := Q.length + 1) (by omega)
        simp only [go_sem, reduceCtorEq, Nat.reduceAdd, Nat.reduceMul, Nat.reduceLeDiff, Nat.reduceLT, Int.reduceLE, Int.reduceLT, Int.reduceEq, Nat.reduceBEq, Nat.reduceEqDiff, Int.lt_irrefl, f.1, f.2.1, f.2.2, g.1, g.2.1, g.2.2, ft, happ]
        have hm : (x.v, y.v) ∉ Q := fun q => by
          obtain ⟨i, hi, e⟩ := List.mem_iff_getElem.1 q
          exact hno i hi (by simp [List.getD_eq_getElem?_getD, hi, e])
        have e1 : (Q ++ [(x.v, y.v)]).length = Q.length + 1 := by simp
        have e2 : (Q ++ [(x.v, y.v)]).map pairV = Q.map pairV ++ [.agg [.sc (.int .i64 x.v), .sc (.int .i64 y.v)]] := by simp [pairV]
        refine h2 (fun h => hm (by have := h.2.2; unfold hasQ at this; simpa using this)) _ _ (Q ++ [(x.v, y.v)]) ?_ ?_ ⟨?_, ?_⟩ ((Gs.refl _ _).set (.inr (by simp)) _) (by rw [e1]; exact List.getElem?_set_self (lt_of_get hk))
        · unfold frV prsV
          rw [e1, e2]
          repeat (first | exact leEnv_nil | refine leEnv_any _ ?_ | refine leEnv_same _ ?_ | refine leEnv_norm _ ?_)
        · funext u v
          unfold addP hasQ
          rw [Bool.eq_iff_iff]
          simp [hxv, hyv]
        · rw [List.nodup_append]
          exact ⟨hQ.nodup, by simp, fun a ha b hb => by rw [List.mem_singleton.1 hb]; rintro rfl; exact hm ha⟩
        · intro z hz
          rcases List.mem_append.1 hz with q | q
          · exact hQ.rg z q
          · rw [List.mem_singleton.1 q]; exact ⟨ra, rb⟩

end Go.Proofs
set_option linter.unusedSimpArgs false
set_option linter.unusedVariables false
set_option maxRecDepth 8000
namespace Go.Proofs
open Go Go.AL

theorem gR_set {R : List (Option Ty)} {k : Nat} (h : k < R.length) (b : Ty) : gR (R.set k (some b)) = bindB (gR R) ((k : Int) + 1) b := by
  funext v
  unfold gR bindB
  by_cases e : v = (k : Int) + 1
  · rw [if_pos e, e, if_pos (by omega)]
    have : ((k : Int) + 1).toNat - 1 = k := by omega
    rw [this]
    simp [List.getD_eq_getElem?_getD, h]
  · rw [if_neg e]
    by_cases h1 : 1 ≤ v
    · simp only [if_pos h1]
      have : k ≠ v.toNat - 1 := by omega
      simp [List.getD_eq_getElem?_getD, List.getElem?_set_ne this]
    · simp only [if_neg h1]
theorem rty_set {R : List (Option Ty)} {k : Nat} (h : k < R.length) (b : Ty) : (R.flatMap rty).take (k * 3) ++ ((tySV b).cells ++ (R.flatMap rty).drop (k * 3 + 3)) = (R.set k (some b)).flatMap rty := by
  induction R generalizing k with
  | nil => simp at h
  | cons x r ih =>
    have hl : (rty x).length = 3 := by cases x with
      | none => rfl
      | some t => exact ty_len t
    rw [List.flatMap_cons]
    cases k with
    | zero =>
      rw [List.set_cons_zero, List.flatMap_cons]
      have : (rty x ++ r.flatMap rty).drop (0 * 3 + 3) = r.flatMap rty := by
        rw [show 0 * 3 + 3 = (rty x).length by omega]; exact List.drop_left
      rw [this]; simp [rty]
    | succ k =>
      rw [List.set_cons_succ, List.flatMap_cons, ← ih (by simpa using h)]
      have e1 : (rty x ++ r.flatMap rty).take ((k + 1) * 3) = rty x ++ (r.flatMap rty).take (k * 3) := by
        rw [List.take_append, hl, List.take_of_length_le (by omega)]
        congr 2
        omega
      have e2 : (rty x ++ r.flatMap rty).drop ((k + 1) * 3 + 3) = (r.flatMap rty).drop (k * 3 + 3) := by
        rw [List.drop_append, hl, List.drop_eq_nil_of_le (by omega), List.nil_append]
        congr 1
        omega
      rw [e1, e2, List.append_assoc]
theorem bit_set {R : List (Option Ty)} {k : Nat} (h : k < R.length) (b : Ty) : (R.map fun x => SV.sc (.bool x.isSome)).take (k * 1) ++ (.sc (.bool true) :: (R.map fun x => SV.sc (.bool x.isSome)).drop (k * 1 + 1)) = (R.set k (some b)).map fun x => SV.sc (.bool x.isSome) := by
  rw [Nat.mul_one, List.map_set]
  rw [List.set_eq_take_append_cons_drop, if_pos (by simpa using h)]
  rfl

set_option maxHeartbeats 4000000 in
theorem bV_c {id a b va vb : Nat} {R : List (Option Ty)} (hn : R.length ≤ 100) (hB : BG R.length (gR R)) (hS : Sm (gR R)) {X : SV} {s : St} {p : Nat} {la lb : Ty} (hlv : la.v ≠ 0) (hx : gR R la.v = none) (ra : 1 ≤ la.v ∧ la.v ≤ R.length) (hg : goodB (ownP R.length) lb = true) (hnb : nd lb ≤ 1000)
    (hR : RSt s id a b va vb R) (e0 : s[p]? = some (.cells [.sc (.int .i64 la.v), .sc (.string la.name), .slice .imm 3 (la.args.map tySV)])) (e1 : s[p + 1]? = some (.cells [.sc (.int .i64 lb.v), .sc (.string lb.name), .slice .imm 3 (lb.args.map tySV)]))
    (Z : Exit → List SV → St → Prop)
    (h25 : la.v ∈ vsT (AP (gR R) lb) → ∀ env, env.getD 8 .any = X → env.getD 9 .any = .sc (.int .i64 25) → Z .ret env s)
    (h0 : la.v ∉ vsT (AP (gR R) lb) → ∀ env s' (k : Nat), la.v = (k : Int) + 1 → k < R.length → env.getD 8 .any = X → env.getD 9 .any = .sc (.int .i64 0) → RSt s' id a b va vb (R.set k (some lb)) → Gs [a, b] s s' → Z .ret env s') :
    AWp Tryd.prog bV Z (frV id X p) s := by
  have hb' := bodyV_eq Tryd.func38 rfl
  have hr : bV = _ := congrArg (fun c => hdC (tlC (tlC (tlC (tlC (tlC (tlC c))))))) hb'
  simp only [tlC, hdC] at hr
  rw [hr]
  clear hr hb'
  unfold frV
  refine awp_c (M := []) ?_
  have f := cells_facts e0
  have g := cells_facts e1
  have c0 : (la.v != 0) = true := by simp [hlv]
  have hreach := fun K h => reach0_c (x := la.v) (by omega) hB hS hx lb hg hnb K s hR h
  rw [tySV_eq lb] at hreach
  obtain ⟨q, hq⟩ : ∃ q : Nat, la.v = (q : Int) + 1 := ⟨la.v.toNat - 1, by omega⟩
  have hw1 : IntKind.i64.wrap (la.v - 1) = (q : Int) := by rw [IntWalk.i64_in _ (by omega)]; omega
  have hql : q < R.length := by omega
  have d1 : (q : Int) < (R.length : Int) := by omega
  have d0 : (0 : Int) ≤ (q : Int) := by omega
  have hi := cells_facts hR.hid
  have fa := arr_facts hR.ha
  have fb := arr_facts hR.hb
  simp only [go_sem, reduceCtorEq, Nat.reduceAdd, Nat.reduceMul, Nat.reduceLeDiff, Nat.reduceLT, Int.reduceLE, Int.reduceLT, Int.reduceEq, Nat.reduceBEq, Nat.reduceEqDiff, f.1, f.2.1, f.2.2, g.1, g.2.1, g.2.2, c0]
  refine hreach _ fun L hL hiff => ?_
  simp only [go_sem, reduceCtorEq, Nat.reduceAdd, Nat.reduceMul, Nat.reduceLeDiff, Nat.reduceLT, Int.reduceLE, Int.reduceLT, Int.reduceEq, Nat.reduceBEq, Nat.reduceEqDiff]
  refine awp_rounds [] (fun m e s1 => ∃ k : Nat, m + k = L.length ∧ s1 = s ∧ (∀ j, j < k → L.getD j 0 ≠ la.v) ∧
    e = [.ptr id 0, .any, .any, X, .any, .ptr p 0, .ptr (p + 1) 0, .any, .any, .any, .any, .any, .slice .imm 1 (L.map i64V), .sc (.int .i64 k), .any, .any, .any, .any, .any, .any, .any, .any, .any, .any, .any, .any, .any, .any, .any, .any, .any, .any, .any, .any, .any, .any, .any, .any, .any, .any, .any, .any, .any, .any, .any, .any, .any, .any, .any, .any, .any, .any, .any, .any, .any, .any, .any, .any, .any, .any, .any, .any, .any, .any, .any, .any, .any, .any, .any, .any, .any, .any, .any, .any, .any, .any, .any, .any, .any, .any, .any, .any, .any, .any, .any, .any, .any, .any, .any, .any, .any, .any, .any, .any, .any, .any, .any, .any, .any, .any, .any, .any, .any, .any, .any, .any, .any, .any, .any, .any, .any, .any, .any, .any, .any, .any, .any, .any, .any, .any, .any, .any, .any, .any, .any, .any, .any, .any, .any, .any, .any, .any, .any, .any, .any, .any, .any, .any, .any, .any, .any, .any, .any, .any, .any, .any, .any, .any, .any, .any, .any, .any, .any, .any, .any, .any, .any, .any, .any, .any, .any, .any, .any, .any, .any, .any]) (n := L.length) ?_ ⟨0, by omega, rfl, fun j hj => by omega, rfl⟩ ?_
  · repeat (first | exact leEnv_nil | refine leEnv_any _ ?_ | refine leEnv_same _ ?_ | refine leEnv_norm _ ?_)
  rintro m e s1 ⟨k, hmk, rfl, hno, rfl⟩
  by_cases hlt : k < L.length
  · have c1 : (k : Int) < (L.length : Int) := by omega
    have c2 : (0 : Int) ≤ (k : Int) := by omega
    have hw := wrapS k (by omega)
    by_cases hxk : L.getD k 0 = la.v
    · have c3 : (L.getD k 0 == la.v) = true := by rw [hxk]; exact beq_self_eq_true _
      have hm : la.v ∈ L := by rw [← hxk]; simp [List.getD_eq_getElem?_getD, hlt]
      simp only [go_sem, reduceCtorEq, Nat.reduceAdd, Nat.reduceMul, Nat.reduceLeDiff, Nat.reduceLT, Int.reduceLE, Int.reduceLT, Int.reduceEq, Nat.reduceBEq, Nat.reduceEqDiff, c1]
      refine awp_draw [] Tryd.mixed rfl ?_
      simp only [go_sem, reduceCtorEq, Nat.reduceAdd, Nat.reduceMul, Nat.reduceLeDiff, Nat.reduceLT, Int.reduceLE, Int.reduceLT, Int.reduceEq, Nat.reduceBEq, Nat.reduceEqDiff, f.1, f.2.1, f.2.2, c1, c2, getD_i64 hlt, i64V_eq, Int.toNat_natCast, c3]
      exact h25 (hiff.1 hm) _ rfl rfl
    · have c3 : (L.getD k 0 == la.v) = false := beq_eq_false_iff_ne.2 hxk
      simp only [go_sem, reduceCtorEq, Nat.reduceAdd, Nat.reduceMul, Nat.reduceLeDiff, Nat.reduceLT, Int.reduceLE, Int.reduceLT, Int.reduceEq, Nat.reduceBEq, Nat.reduceEqDiff, c1]
      refine awp_draw [] Tryd.mixed rfl ?_
      simp only [go_sem, reduceCtorEq, Nat.reduceAdd, Nat.reduceMul, Nat.reduceLeDiff, Nat.reduceLT, Int.reduceLE, Int.reduceLT, Int.reduceEq, Nat.reduceBEq, Nat.reduceEqDiff, f.1, f.2.1, f.2.2, c1, c2, getD_i64 hlt, i64V_eq, Int.toNat_natCast, c3, hw]
      refine ⟨m - 1, _, by omega, ?_, k + 1, by omega, fun j hj => ?_, rfl⟩
      · repeat (first | exact leEnv_nil | refine leEnv_any _ ?_ | refine leEnv_same _ ?_ | refine leEnv_norm _ ?_)
      · rcases Nat.lt_or_ge j k with z | z
        · exact hno j z
        · obtain rfl : j = k := by omega
          exact hxk
  · obtain rfl : k = L.length := by omega
    have hm : la.v ∉ vsT (AP (gR R) lb) := fun z => by
      obtain ⟨i, hi, e⟩ := List.mem_iff_getElem.1 (hiff.2 z)
      exact hno i hi (by simp [List.getD_eq_getElem?_getD, hi, e])
    have hset := rty_set hql lb
    have hbs := bit_set hql lb
    have hcb := cells_ty lb
    rw [hcb] at hset
    simp only [List.cons_append, List.nil_append] at hset
    have hfl : q * 3 + 3 ≤ (R.flatMap rty).length := by rw [rty_len]; omega
    have hbl : q * 1 + 1 ≤ (R.map fun x => SV.sc (.bool x.isSome)).length := by rw [List.length_map]; omega
    obtain ⟨s2, hs2⟩ : ∃ s2, s1.set a (.arr va 3 ((R.set q (some lb)).flatMap rty)) = s2 := ⟨_, rfl⟩
    have hpa : p ≠ a := by rintro rfl; have := e0.symm.trans hR.ha; cases this
    have f2 := cells_facts (show s2[p]? = _ by rw [← hs2, List.getElem?_set_ne hpa.symm]; exact e0)
    have hi2' : s2[id]? = some (.cells [.arr a va R.length, .arr b vb R.length]) := by rw [← hs2, List.getElem?_set_ne hR.neA.symm]; exact hR.hid
    have hi2 := cells_facts hi2'
    have hb2' : s2[b]? = some (.arr vb 1 (R.map fun x => .sc (.bool x.isSome))) := by rw [← hs2, List.getElem?_set_ne hR.ne]; exact hR.hb
    have fb2 := arr_facts hb2'
    simp only [go_sem, reduceCtorEq, Nat.reduceAdd, Nat.reduceMul, Nat.reduceLeDiff, Nat.reduceLT, Int.reduceLE, Int.reduceLT, Int.reduceEq, Nat.reduceBEq, Nat.reduceEqDiff, Int.lt_irrefl]
    refine awp_drawT [] [0, 0, 0, 0, 0, 0, 0, 0, 0, 3] (fun _ => True) Tryd.mixed rfl trivial ?_
    simp only [go_sem, reduceCtorEq, Nat.reduceAdd, Nat.reduceMul, Nat.reduceLeDiff, Nat.reduceLT, Int.reduceLE, Int.reduceLT, Int.reduceEq, Nat.reduceBEq, Nat.reduceEqDiff, drawU_n, drawU_0, drawU_1, drawU_2, drawU_3, isStore_s, f.1, f.2.1, f.2.2, g.1, g.2.1, g.2.2, hi.1, hi.2.1, hi.2.2, hw1, d0, d1, fa.1, fa.2.1, fa.2.2.1, fa.2.2.2, hset, hs2, hfl]
    refine ⟨_, _, ⟨rfl, rfl⟩, ?_⟩
    refine awp_drawT [] [0, 0, 0, 0, 0, 0, 0, 0, 3] (fun _ => True) Tryd.mixed rfl trivial ?_
    simp only [go_sem, reduceCtorEq, Nat.reduceAdd, Nat.reduceMul, Nat.reduceLeDiff, Nat.reduceLT, Int.reduceLE, Int.reduceLT, Int.reduceEq, Nat.reduceBEq, Nat.reduceEqDiff, drawU_n, drawU_0, drawU_1, drawU_2, drawU_3, isStore_s, f2.1, f2.2.1, f2.2.2, hi2.1, hi2.2.1, hi2.2.2, hw1, d0, d1, fb2.1, fb2.2.1, fb2.2.2.1, fb2.2.2.2, hbs]
    refine ⟨_, _, ⟨by omega, rfl, rfl⟩, ?_⟩
    refine h0 hm _ _ q hq hql rfl rfl ⟨?_, ?_, ?_, hR.ne⟩ ?_
    · rw [List.getElem?_set_ne hR.neB.symm, hi2', List.length_set]
    · rw [List.getElem?_set_ne hR.ne.symm, ← hs2]; exact List.getElem?_set_self (lt_of_get hR.ha)
    · exact List.getElem?_set_self (lt_of_get hb2')
    · rw [← hs2]
      exact ((Gs.refl _ _).set (.inr (by simp)) _).set (.inr (by simp)) _

end Go.Proofs
