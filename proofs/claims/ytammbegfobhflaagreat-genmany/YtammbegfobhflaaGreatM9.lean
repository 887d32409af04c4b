/- Whether a code holds together (verify.Code). -/
import Derived.Test.YtammbegfobhflaaGreatW28
import Derived.Test.YtammbegfobhflaaGreatN1
import Derived.Test.YtammbegfobhflaaGreatN2
import Derived.Test.YtammbegfobhflaaGreatW11
import Derived.Test.YtammbegfobhflaaGreatAX
set_option linter.all false
set_option linter.unusedSimpArgs false
set_option linter.unusedVariables false
set_option maxRecDepth 8000
namespace Go.AL
theorem all_range_no {p : Nat → Bool} {n k : Nat} (hk : k < n) (h : p k = false) : (List.range n).all p = false := by
  rw [Bool.eq_false_iff]
  intro e
  have := List.all_eq_true.1 e k (List.mem_range.2 hk)
  rw [h] at this
  cases this
theorem all_range_yes {p : Nat → Bool} {n : Nat} (h : ∀ j, j < n → p j = true) : (List.range n).all p = true := List.all_eq_true.2 fun j hj => h j (List.mem_range.1 hj)
theorem lt_stepB {k : Nat} {p : Nat → Bool} (h : ∀ j, j < k → p j = true) (hk : p k = true) : ∀ j, j < k + 1 → p j = true := fun j hj => by
  rcases Nat.lt_or_ge j k with h1 | h1
  · exact h j h1
  · rwa [show j = k by omega]
end Go.AL
namespace Go.Proofs
open Go Go.AL
set_option maxHeartbeats 4000000 in
theorem vcode_c {m1 m2 m3 : AL.Mode} {z1 z2 z3 : Nat} (c : Cd) (hz : CdZ m1 m2 m3 z1 z2 z3 c) (K : SV → St → Prop) (st : St) (h : K (i64 (codeF c)) st) : ACalls Tryz.prog 12 [.agg (cdCells m1 m2 m3 z1 z2 z3 c)] K st := by
  unfold codeF at h
  by_cases hm : mayF c = true
  case neg =>
    have hm : mayF c = false := by simpa using hm
    rw [hm] at h
    refine acalls_go_pure [23] Tryz.func12 rfl Tryz.results12 Tryz.ntmps12 ?_
    simp only [↓reduceIte, ↓c_condI, ↓c_seqH, ↓c_blockH, ↓then_nH, ↓then_rH, ↓then_eH, ↓block_nH, ↓block_rH, ↓block_eH, go_sem, cdCells]
    refine may_c c hz _ _ ?_
    simp only [↓reduceIte, ↓c_condI, ↓c_seqH, ↓c_blockH, ↓then_nH, ↓then_rH, ↓then_eH, ↓block_nH, ↓block_rH, ↓block_eH, go_sem, hm]
    exact ⟨⟨[], by simp⟩, .sc _, h⟩
  rw [hm] at h
  simp only [if_true] at h
  have hfl : 1 ≤ c.funs.length ∧ c.funs.length ≤ 120 := by
    have h2 := hm
    unfold mayF inB at h2
    simp only [Bool.and_eq_true, decide_eq_true_eq] at h2
    omega
  have hz1 := hz.f (by intro e; rw [e] at hfl; simp at hfl)
  subst hz1
  refine acalls_go_pure [23] Tryz.func12 rfl Tryz.results12 Tryz.ntmps12 ?_
  simp only [↓reduceIte, ↓c_condI, ↓c_seqH, ↓c_blockH, ↓then_nH, ↓then_rH, ↓then_eH, ↓block_nH, ↓block_rH, ↓block_eH, go_sem, cdCells]
  refine may_c c hz _ _ ?_
  simp only [↓reduceIte, ↓c_condI, ↓c_seqH, ↓c_blockH, ↓then_nH, ↓then_rH, ↓then_eH, ↓block_nH, ↓block_rH, ↓block_eH, go_sem, hm, List.length_map]
  refine awp_rounds [23] (fun b e s => ∃ k ex, k + b = c.funs.length ∧ (∀ j, j < k → (walkEF c j).isSome = true) ∧ e = [.any, .ref (cdCells m1 m2 m3 4 z2 z3 c), .any, .any, .any, .any, .any, .any, .any, .any, .any, .any, .slice m1 4 (c.funs.map bdSV), i64 c.funs.length, i64 k, .any, .any, .any, .any, .any, .any, .any, .any, .any, .any, .any, .any, .any, .any, .any, .any, .any] ∧ s = st ++ ex) (n := c.funs.length) ?_ ⟨0, [], by omega, fun j hj => by omega, rfl, by simp⟩ ?_
  · simp only [cdCells]
    repeat (first | exact leEnv_nil | refine leEnv_any _ ?_ | refine leEnv_same _ ?_ | refine leEnv_norm _ ?_)
  rintro b e s ⟨k, ex, hk, hall, rfl, rfl⟩
  by_cases hlt : k < c.funs.length
  · have c1 : (k : Int) < (c.funs.length : Int) := by omega
    have hg : (c.funs.map bdSV).getD k .any = bdSV (c.funs.getD k default) := getD_map' _ hlt
    have hbd := may_body hm hlt
    obtain ⟨f, hf⟩ : ∃ f, c.funs.getD k default = f := ⟨_, rfl⟩
    rw [hf] at hg hbd
    have hw : IntKind.i64.wrap ((k : Int) + 1) = ((k + 1 : Nat) : Int) := by rw [IntWalk.i64_in _ (by omega)]; rfl
    have hget : (st ++ (ex ++ [Ob.cells [i64 f.kept, i64 f.locals, i64 f.stack, insSV f.code], Ob.cells (wkCells c m1 m2 m3 4 z2 z3 k f)]))[st.length + (ex.length + 1)]? = some (.cells (wkCells c m1 m2 m3 4 z2 z3 k f)) := by
      rw [List.getElem?_append_right (by omega), List.getElem?_append_right (by omega)]
      rw [show st.length + (ex.length + 1) - st.length - ex.length = 1 by omega]
      rfl
    by_cases hwk : (walkEF c k).isSome = true
    · simp only [↓reduceIte, ↓c_condI, ↓c_seqH, ↓c_blockH, ↓then_nH, ↓then_rH, ↓then_eH, ↓block_nH, ↓block_rH, ↓block_eH, go_sem, c1, hg, bdSV, cdCells]
      refine ⟨rfl, walk_c hget hz.f (by omega) hf hbd ?_⟩
      simp only [↓reduceIte, ↓c_condI, ↓c_seqH, ↓c_blockH, ↓then_nH, ↓then_rH, ↓then_eH, ↓block_nH, ↓block_rH, ↓block_eH, go_sem, hwk, hw]
      refine ⟨b - 1, [.any, .ref (cdCells m1 m2 m3 4 z2 z3 c), .any, .any, .any, .any, .any, .any, .any, .any, .any, .any, .slice m1 4 (c.funs.map bdSV), i64 c.funs.length, i64 ((k + 1 : Nat) : Int), .any, .any, .any, .any, .any, .any, .any, .any, .any, .any, .any, .any, .any, .any, .any, .any, .any], by omega, ?_, k + 1, _, by omega, lt_stepB (p := fun n => (walkEF c n).isSome) hall hwk, rfl, rfl⟩
      simp only [cdCells]
      repeat (first | exact leEnv_nil | refine leEnv_any _ ?_ | refine leEnv_same _ ?_ | refine leEnv_norm _ ?_)
    · have hwk : (walkEF c k).isSome = false := by simpa using hwk
      rw [all_range_no (p := fun n => (walkEF c n).isSome) hlt hwk, if_neg (by decide)] at h
      simp only [↓reduceIte, ↓c_condI, ↓c_seqH, ↓c_blockH, ↓then_nH, ↓then_rH, ↓then_eH, ↓block_nH, ↓block_rH, ↓block_eH, go_sem, c1, hg, bdSV, cdCells]
      refine ⟨rfl, walk_c hget hz.f (by omega) hf hbd ?_⟩
      simp only [↓reduceIte, ↓c_condI, ↓c_seqH, ↓c_blockH, ↓then_nH, ↓then_rH, ↓then_eH, ↓block_nH, ↓block_rH, ↓block_eH, go_sem, hwk, hw]
      exact ⟨⟨_, rfl⟩, .sc _, h⟩
  · obtain rfl : k = c.funs.length := by omega
    have c1 : ((c.funs.length : Int) < (c.funs.length : Int)) = False := eq_false (by omega)
    rw [all_range_yes hall, if_pos rfl] at h
    simp only [↓reduceIte, ↓c_condI, ↓c_seqH, ↓c_blockH, ↓then_nH, ↓then_rH, ↓then_eH, ↓block_nH, ↓block_rH, ↓block_eH, go_sem, c1]
    exact ⟨⟨_, rfl⟩, .sc _, h⟩
end Go.Proofs
set_option linter.unusedSimpArgs false
set_option linter.unusedVariables false
set_option maxRecDepth 8000
namespace Go.AL
def fuCells (f : Fu) : List SV := [i64 f.kept, i64 f.locals, i64 f.body.kind, i64 f.body.number, str f.body.text, cosSV f.body.kids, i64 0, .slice .imm 1 [], .slice .imm 6 [], .slice .imm 4 [], bdsSV f.body.binds]
def fuSV (f : Fu) : SV := .agg (fuCells f)
/-- A code is told, with a place and an error. -/
def FinT (st : St) (K : SV → St → Prop) : SV → St → Prop := fun x s => ∃ l k e, x = .tuple [.agg l, i64 k, i64 e] ∧ (∃ ex, s = st ++ ex) ∧ (∀ y ∈ l, Ids st.length (norm y)) ∧ K (.tuple [.agg (l.map norm), i64 k, i64 e]) st
theorem sle_norm (x : SV) : SVle x (norm x) := fun _ _ _ _ h => h.norm
theorem sles_map : ∀ l : List SV, SVles l (l.map norm)
  | [] => .nil
  | x :: r => .cons (sle_norm x) (sles_map r)
theorem acalls_pureG {P : Program} {f : FuncId} {args : List SV} {K : SV → St → Prop} {st : St}
    (h : ACalls P f args (fun x s => ∃ ex, s = st ++ ex ∧ Ids st.length x ∧ K x st) st) : ACalls P f args K st := by
  intro σ w vs hI hR
  refine (h σ w vs hI hR).mono ?_
  rintro e w' ⟨v, x, st', σ', rfl, ⟨ex, rfl, hids, hk⟩, hI', hr, hX⟩
  exact ⟨v, x, st, σ', rfl, hk, hI'.drop hI.obIds, hr.drop hids, hX.drop (Nat.le_refl _)⟩
theorem acalls_goT {P : Program} (M : List Nat) {f : FuncId} {fn : Func} {c : Code} {rs : Array ResultVar} {n : Nat} {args : List SV} {K : SV → St → Prop} {st : St} (hf : P.funcs[f]? = some fn) (hb : fn.body = some c)
    (hr : fn.results = rs) (hn : fn.ntmps = n) (h : cSpec P M c (RetR P rs.toList (FinT st K)) (args ++ List.replicate (n - args.length) .any) st) : ACalls P f args K st := by
  refine acalls_pureG (acalls_le ((acalls_go hf hb hr hn h).mono ?_))
  rintro x s ⟨l, k, e, rfl, ⟨ex, rfl⟩, hi, hk⟩
  refine ⟨.tuple [.agg (l.map norm), i64 k, i64 e], SVle.tuple (.cons (SVle.agg (sles_map l)) (.cons (SVle.refl _) (.cons (SVle.refl _) .nil))), ex, rfl, ?_, hk⟩
  refine .tuple _ fun i hi' => ?_
  match i, hi' with
  | 0, _ =>
    show Ids _ (.agg (l.map norm))
    rw [ids_agg]
    intro y hy
    obtain ⟨z, hz, rfl⟩ := List.mem_map.1 hy
    exact hi z hz
  | 1, _ => exact .sc _
  | 2, _ => exact .sc _
end Go.AL
namespace Go.Proofs
open Go Go.AL
theorem Tryz.app35 {n : Nat} (h : n ≤ 1000000) : AppOk Tryz.prog 34 34 4 n := appOk_of Tryz.aelem34 Tryz.aelem34 Tryz.asize59 Tryz.azero59 rfl Tryz.abytes59 (by omega) h
theorem expA (D : Nat) {s : St} {L : WL} {g : GS} {v : GV} (hA : AtW s L g v) (c : Co) (last : Bool) (hf : fitC D c) (hg : okG g) (K : SV → St → Prop) (h : ∀ v', K (.tuple []) (stW s L (expG D c last g) v')) : ACalls Tryz.prog 8 [.ptr L.w 0, .agg [i64 c.kind, i64 c.number, str c.text, cosSV c.kids, i64 0, .slice .imm 1 [], .slice .imm 6 [], .slice .imm 4 [], bdsSV c.binds], .sc (.bool last)] K s := by
  rw [← coSV_eq]
  exact exp_c D hA c last hf hg K h
theorem needsA (D : Nat) (hD : D ≤ 100000) (c : Co) (hf : fitC D c) (K : SV → St → Prop) (st : St) (h : K (i64 (needsG D c)) st) : ACalls Tryz.prog 9 [.agg [i64 c.kind, i64 c.number, str c.text, cosSV c.kids, i64 0, .slice .imm 1 [], .slice .imm 6 [], .slice .imm 4 [], bdsSV c.binds]] K st := by
  rw [← coSV_eq]
  exact needs_c D hD c hf K st h
end Go.Proofs
namespace Go.AL
theorem ins_flat (l : List In) : (l.map inSV).flatMap SV.cells = codeCells l := by
  induction l with
  | nil => rfl
  | cons a r ih => rw [List.map_cons, List.flatMap_cons, ih]; rfl
/-- The state at each function's begin. -/
structure GnI (D : Nat) (lets : Int) (l : List Fu) (R : Cd × Int × Int) (gid : Nat) (gm : Int) (st : St) (b k : Nat) (is : List Int) (ts : List ByteArray) (bs : List Bd) (vi vt vf : Nat) (s : St) : Prop where
  told : genL D lets (l.drop k) k is ts bs = R
  cnt : k + b = l.length
  li : is.length ≤ 120
  lt : ts.length ≤ 120
  lb : bs.length = k
  res : s[st.length]? = some (.cells [.slice .full 0 [], .slice .full 0 [], .slice .full 0 [], i64 0])
  pool : s[st.length + 1]? = some (.cells [.slice .full 0 [], .slice (.own (st.length + 3) vi) 1 (is.map i64), .slice (.own (st.length + 4) vt) 1 (ts.map str)])
  cod : s[st.length + 2]? = some (.cells [.slice (.own (st.length + 5) vf) 4 (bs.map bdSV), .slice .full 0 [], .slice .full 0 [], i64 lets])
  ti : s[st.length + 3]? = some (.tok vi)
  tt : s[st.length + 4]? = some (.tok vt)
  tf : s[st.length + 5]? = some (.tok vf)
  gl : s[gid]? = some (Ob.glob 0 (.int .i64 gm))
  ex : ∃ ex, s = st ++ ex
theorem gen_start {st : St} {gid : Nat} {gm lets : Int} (hg : st[gid]? = some (Ob.glob 0 (.int .i64 gm))) {S0 : St}
    (hS0 : st ++ [Ob.cells [.slice .full 0 [], .slice .full 0 [], .slice .full 0 [], i64 0], Ob.cells [.slice .full 0 [], .slice .full 0 [], .slice .full 0 []], Ob.cells [.slice .full 0 [], .slice .full 0 [], .slice .full 0 [], i64 lets]] = S0) (D : Nat) (l : List Fu) :
    ∃ S3, View S0 S3 ∧ GnI D lets l (genL D lets l 0 [] [] []) gid gm st l.length 0 [] [] [] 0 0 0 S3 := by
  have a0 : S0[st.length]? = some (.cells [.slice .full 0 [], .slice .full 0 [], .slice .full 0 [], i64 0]) := by rw [← hS0]; simp
  have a1 : S0[st.length + 1]? = some (.cells [.slice .full 0 [], .slice .full 0 [], .slice .full 0 []]) := by rw [← hS0]; simp
  have a2 : S0[st.length + 2]? = some (.cells [.slice .full 0 [], .slice .full 0 [], .slice .full 0 [], i64 lets]) := by rw [← hS0]; simp
  have ag : S0[gid]? = some (Ob.glob 0 (.int .i64 gm)) := by rw [← hS0]; exact get_app hg _
  have aex : ∃ ex, S0 = st ++ ex := ⟨_, hS0.symm⟩
  have hl0 : S0.length = st.length + 3 := by rw [← hS0]; simp
  have hgl := lt_of_get hg
  have v1 := view_ownC (st.length + 1) 1 1 0 a1 (by simp) rfl
  obtain ⟨S1, hS1⟩ : ∃ S1, S0.set (st.length + 1) (.cells (List.set [.slice .full 0 [], .slice .full 0 [], .slice .full 0 []] 1 (.slice (.own S0.length 0) 1 []))) ++ [Ob.tok 0] = S1 := ⟨_, rfl⟩
  rw [hS1] at v1
  have hl1 : S1.length = st.length + 4 := by rw [← hS1]; simp [hl0]
  rw [hl0] at hS1
  have b1 : S1[st.length + 1]? = some (.cells [.slice .full 0 [], .slice (.own (st.length + 3) 0) 1 [], .slice .full 0 []]) := by rw [← hS1]; exact get_app (set_get (by omega)) _
  have v2 := view_ownC (st.length + 1) 2 1 0 b1 (by simp) rfl
  obtain ⟨S2, hS2⟩ : ∃ S2, S1.set (st.length + 1) (.cells (List.set [.slice .full 0 [], .slice (.own (st.length + 3) 0) 1 [], .slice .full 0 []] 2 (.slice (.own S1.length 0) 1 []))) ++ [Ob.tok 0] = S2 := ⟨_, rfl⟩
  rw [hS2] at v2
  have hl2 : S2.length = st.length + 5 := by rw [← hS2]; simp [hl1]
  rw [hl1] at hS2
  have c2 : S2[st.length + 2]? = some (.cells [.slice .full 0 [], .slice .full 0 [], .slice .full 0 [], i64 lets]) := by rw [← hS2, ← hS1]; exact get_app ((set_get_ne (by omega)).trans (get_app ((set_get_ne (by omega)).trans a2) _)) _
  have v3 := view_ownC (st.length + 2) 0 4 0 c2 (by simp) rfl
  obtain ⟨S3, hS3⟩ : ∃ S3, S2.set (st.length + 2) (.cells (List.set [.slice .full 0 [], .slice .full 0 [], .slice .full 0 [], i64 lets] 0 (.slice (.own S2.length 0) 4 []))) ++ [Ob.tok 0] = S3 := ⟨_, rfl⟩
  rw [hS3] at v3
  rw [hl2] at hS3
  have up : ∀ {j : Nat} {o : Ob}, j ≠ st.length + 1 → j ≠ st.length + 2 → S0[j]? = some o → S3[j]? = some o := fun h1 h2 h => by
    rw [← hS3]
    refine get_app ((set_get_ne h2).trans ?_) _
    rw [← hS2]
    refine get_app ((set_get_ne h1).trans ?_) _
    rw [← hS1]
    exact get_app ((set_get_ne h1).trans h) _
  refine ⟨S3, v1.trans (v2.trans v3), rfl, by omega, by simp, by simp, rfl, up (by omega) (by omega) a0, ?_, ?_, ?_, ?_, ?_, up (by omega) (by omega) ag, ?_⟩
  · rw [← hS3]; refine get_app ((set_get_ne (by omega)).trans ?_) _
    rw [← hS2]; exact get_app (set_get (by omega)) _
  · rw [← hS3]; exact get_app (set_get (by omega)) _
  · rw [← hS3]; refine get_app ((set_get_ne (by omega)).trans ?_) _
    rw [← hS2]; refine get_app ((set_get_ne (by omega)).trans ?_) _
    rw [← hS1, List.getElem?_append_right (by simp; omega)]
    simp [hl0]
  · rw [← hS3]; refine get_app ((set_get_ne (by omega)).trans ?_) _
    rw [← hS2, List.getElem?_append_right (by simp; omega)]
    simp [hl1]
  · rw [← hS3, List.getElem?_append_right (by simp; omega)]
    simp [hl2]
  · rw [← hS3, ← hS2, ← hS1]
    exact ex_app2 (ex_set (ex_app2 (ex_set (ex_app2 (ex_set aex (by omega) _) _) (by omega) _) _) (by omega) _) _
/-- A writer is begun. -/
theorem gen_round {D : Nat} {lets : Int} {l : List Fu} {R : Cd × Int × Int} {gid : Nat} {gm : Int} {st s s1 : St} {b k : Nat} {is : List Int} {ts : List ByteArray} {bs : List Bd} {vi vt vf : Nat} (I : GnI D lets l R gid gm st b k is ts bs vi vt vf s) {X : List SV}
    (h1 : s ++ [Ob.cells X, Ob.cells [.ptr (st.length + 1) 0, .slice .full 0 []]] = s1) :
    ∃ s2, View s1 s2 ∧ AtW s2 ⟨s.length + 1, st.length + 1, s.length + 2, st.length + 3, st.length + 4⟩ ⟨[], is, ts⟩ ⟨0, vi, vt⟩ ∧ s2[s.length]? = some (.cells X) ∧ (∀ (j : Nat) (o : Ob), s[j]? = some o → s2[j]? = some o) ∧ (∃ ex, s2 = st ++ ex) := by
  have hl1 : s1.length = s.length + 2 := by rw [← h1]; simp
  have lt5 := lt_of_get I.tf
  have a1 : s1[s.length + 1]? = some (.cells [.ptr (st.length + 1) 0, .slice .full 0 []]) := by rw [← h1]; simp
  have v1 := view_arrC (s.length + 1) 1 3 0 a1 (by simp) rfl
  rw [hl1] at v1
  refine ⟨_, v1, ⟨?_, ?_, ?_, ?_, ?_, by show s.length + 1 ≠ st.length + 1; omega, by show st.length + 3 ≠ st.length + 4; omega, gid, gm, ?_⟩, ?_, ?_, ?_⟩
  · exact get_app (set_get (by omega)) _
  · exact get_app ((set_get_ne (by show st.length + 1 ≠ s.length + 1; omega)).trans (by rw [← h1]; exact get_app I.pool _)) _
  · show (_ ++ [_])[s.length + 2]? = _
    rw [List.getElem?_append_right (by simp; omega)]
    simp [hl1, codeCells]
  · exact get_app ((set_get_ne (by show st.length + 3 ≠ s.length + 1; omega)).trans (by rw [← h1]; exact get_app I.ti _)) _
  · exact get_app ((set_get_ne (by show st.length + 4 ≠ s.length + 1; omega)).trans (by rw [← h1]; exact get_app I.tt _)) _
  · have := lt_of_get I.gl
    exact get_app ((set_get_ne (by omega)).trans (by rw [← h1]; exact get_app I.gl _)) _
  · exact get_app ((set_get_ne (by omega)).trans (by rw [← h1]; simp)) _
  · intro j o hj
    have := lt_of_get hj
    exact get_app ((set_get_ne (by omega)).trans (by rw [← h1]; exact get_app hj _)) _
  · refine ex_app2 (ex_set ?_ (by omega) _) _
    rw [← h1]
    exact ex_app2 I.ex _
/-- What is written is a slice from now on. -/
theorem gen_frz {s : St} {L : WL} {g : GS} {v : GV} (hA : AtW s L g v) : ∃ s2, View s s2 ∧ s2[L.w]? = some (.cells [.ptr L.p 0, .slice .imm 3 (g.code.map inSV)]) ∧ (∀ j : Nat, j ≠ L.w → j ≠ L.a → s2[j]? = s[j]?) ∧ (∀ st : St, st.length ≤ L.w → st.length ≤ L.a → (∃ ex, s = st ++ ex) → ∃ ex, s2 = st ++ ex) := by
  have hv := view_frzC (xs := g.code.map inSV) L.w 1 hA.w (by simp [wOb]) rfl hA.a (by rw [ins_flat, List.take_of_length_le (by rw [codeCells_len]; exact Nat.le_refl _)]) (by simp) (fun x hx => by obtain ⟨a, _, rfl⟩ := List.mem_map.1 hx; rfl)
  refine ⟨_, hv, ?_, fun j h1 h2 => ?_, fun st h1 h2 h => ex_set (ex_set h h2 _) h1 _⟩
  · rw [set_get (by simpa using lt_of_get hA.w)]; rfl
  · rw [set_get_ne h1, set_get_ne h2]
theorem ids_codes {n : Nat} {m1 m2 m3 : AL.Mode} {z1 z2 z3 : Nat} (c : Cd) : ∀ y ∈ cdCells m1 m2 m3 z1 z2 z3 c, Ids n (norm y) := by
  intro y hy
  simp only [cdCells, List.mem_cons, List.not_mem_nil, or_false] at hy
  rcases hy with rfl | rfl | rfl | rfl
  · refine ids_slice (.inl rfl) fun x hx z hz => ?_
    obtain ⟨a, _, rfl⟩ := List.mem_map.1 hx
    have := ids_bd n a
    rw [bdSV, ids_agg] at this
    exact this z hz
  · refine ids_slice (.inl rfl) fun x hx z hz => ?_
    obtain ⟨a, _, rfl⟩ := List.mem_map.1 hx
    simp only [SV.cells, List.mem_singleton] at hz
    subst hz; exact .sc _
  · refine ids_slice (.inl rfl) fun x hx z hz => ?_
    obtain ⟨a, _, rfl⟩ := List.mem_map.1 hx
    simp only [SV.cells, List.mem_singleton] at hz
    subst hz; exact .sc _
  · exact .sc _
end Go.AL
namespace Go.Proofs
open Go Go.AL
set_option maxHeartbeats 4000000 in
theorem gen_c (D : Nat) (hD : D ≤ 100000) (lets : Int) (l : List Fu) (hl : l.length ≤ 1000) (hfit : ∀ f ∈ l, fitC D f.body) (m0 : AL.Mode) {gid : Nat} {gm : Int} (K : SV → St → Prop) (st : St) (hg : st[gid]? = some (Ob.glob 0 (.int .i64 gm)))
    (h : ∀ c k e, genF D l lets = (c, k, e) → ∀ z1 z2 z3, CdZ .imm .imm .imm z1 z2 z3 c → K (.tuple [.agg (cdCells .imm .imm .imm z1 z2 z3 c), i64 k, i64 e]) st) :
    ACalls Tryz.prog 4 [.slice m0 11 (l.map fuSV), .slice .full 0 [], i64 lets] K st := by
  obtain ⟨R, hR⟩ : ∃ R, genF D l lets = R := ⟨_, rfl⟩
  rw [hR] at h
  unfold genF at hR
  refine acalls_goT [18, 30] Tryz.func4 rfl Tryz.results4 Tryz.ntmps4 ?_
  simp -implicitDefEqProofs (maxSteps := 2000000) only [↓ops_nil, ↓ops_none, ↓ops_some, ↓kd_eff, ↓dr_nil, ↓dr_cons, ↓d1_none, ↓d1_some, ↓eff_store, ↓eff_box, ↓eff_alloc, ↓eff_build, ↓eff_buildSlice, ↓eff_call, ↓eff_append, ↓eff_copy, ↓eff_clear, ↓eff_make, ↓reduceIte, ↓c_condI, ↓c_seqH, ↓c_blockH, ↓then_nH, ↓then_rH, ↓then_eH, ↓block_nH, ↓block_rH, ↓block_eH, go_sem, List.length_map]
  obtain ⟨S0, hS0⟩ : ∃ S0, st ++ [Ob.cells [.slice .full 0 [], .slice .full 0 [], .slice .full 0 [], i64 0], Ob.cells [.slice .full 0 [], .slice .full 0 [], .slice .full 0 []], Ob.cells [.slice .full 0 [], .slice .full 0 [], .slice .full 0 [], i64 lets]] = S0 := ⟨_, rfl⟩
  obtain ⟨S3, hv, I0⟩ := gen_start hg hS0 D l
  rw [hR] at I0
  rw [hS0]
  refine awp_view hv ?_
  have hgl := lt_of_get hg
  refine awp_rounds [18, 30] (fun b e s => ∃ k is ts bs vi vt vf, GnI D lets l R gid gm st b k is ts bs vi vt vf s ∧ e = [.any, .any, .any, .any, .any, .any, .ptr st.length 0, .any, .any, .ptr (st.length + 1) 0, .ptr (st.length + 2) 0, .any, .any, .any, .any, .any, .any, .any, .any, .any, .any, .slice m0 11 (l.map fuSV), i64 l.length, i64 k, .any, .any, .any, .any, .any, .any, .any, .any, .any, .any, .any, .any, .any, .any, .any, .any, .any, .any, .any, .any, .any, .any, .any, .any, .any, .any, .any, .any, .any, .any, .any, .any, .any, .any, .any, .any, .any, .any, .any, .any, .any, .any, .any, .any, .any, .any, .any, .any, .any, .any, .any, .any, .any, .any, .any, .any, .any, .any, .any, .any, .any, .any, .any, .any, .any, .any, .any, .any, .any, .any, .any, .any, .any, .any, .any, .any, .any, .any, .any, .any, .any]) (n := l.length) ?_ ⟨0, [], [], [], 0, 0, 0, I0, rfl⟩ ?_
  · repeat (first | exact leEnv_nil | refine leEnv_any _ ?_ | refine leEnv_same _ ?_ | refine leEnv_norm _ ?_)
  clear I0 hv hS0 hR
  rintro b e s ⟨k, is, ts, bs, vi, vt, vf, I, rfl⟩
  obtain ⟨i1, i2, i3, i4, i5, i6, i7, i8, i9, i10, i11, i12, i13⟩ := id I
  by_cases hlt : k < l.length
  · have c1 : (k : Int) < (l.length : Int) := by omega
    have hw : IntKind.i64.wrap ((k : Int) + 1) = ((k + 1 : Nat) : Int) := by rw [IntWalk.i64_in _ (by omega)]; rfl
    have hgt : (l.map fuSV).getD k .any = fuSV l[k] := by simp [List.getD_eq_getElem?_getD, hlt]
    rw [List.drop_eq_getElem_cons hlt, genL_cons] at i1
    have hfk := hfit _ (List.getElem_mem hlt)
    generalize l[k] = f at *
    simp -implicitDefEqProofs (maxSteps := 2000000) only [↓ops_nil, ↓ops_none, ↓ops_some, ↓kd_eff, ↓dr_nil, ↓dr_cons, ↓d1_none, ↓d1_some, ↓eff_store, ↓eff_box, ↓eff_alloc, ↓eff_build, ↓eff_buildSlice, ↓eff_call, ↓eff_append, ↓eff_copy, ↓eff_clear, ↓eff_make, ↓reduceIte, ↓c_condI, ↓c_seqH, ↓c_blockH, ↓then_nH, ↓then_rH, ↓then_eH, ↓block_nH, ↓block_rH, ↓block_eH, go_sem, c1, hgt, fuSV, fuCells]
    obtain ⟨s1, hs1⟩ : ∃ s1, s ++ [Ob.cells [i64 f.kept, i64 f.locals, i64 f.body.kind, i64 f.body.number, str f.body.text, .slice .imm 9 (f.body.kids.map coSV), i64 0, .slice .imm 1 [], .slice .imm 6 [], .slice .imm 4 [], .slice .imm 1 (f.body.binds.map bnsSV)],
      Ob.cells [.ptr (st.length + 1) 0, .slice .full 0 []]] = s1 := ⟨_, rfl⟩
    obtain ⟨s2, v2, hA, sX, sUp, sEx⟩ := gen_round I hs1
    obtain ⟨g, hgg⟩ : ∃ g, expG D f.body true ⟨[], is, ts⟩ = g := ⟨_, rfl⟩
    rw [hgg] at i1
    have hok : okG ⟨[], is, ts⟩ := ⟨by simp, by simp; omega, by simp; omega⟩
    have hgok := (gd_exp D f.body true ⟨[], is, ts⟩ hok).ok
    rw [hgg] at hgok
    rw [hs1]
    refine acalls_view v2 ?_
    refine expA D hA f.body true hfk hok _ fun v' => ?_
    rw [hgg]
    have hA3 := hA.turn g v'
    obtain ⟨s3, hs3⟩ : ∃ s3, stW s2 ⟨s.length + 1, st.length + 1, s.length + 2, st.length + 3, st.length + 4⟩ g v' = s3 := ⟨_, rfl⟩
    have hlt5 := lt_of_get i11
    have s3o : ∀ {j : Nat} {o : Ob}, j < s.length → j ≠ st.length + 1 → j ≠ st.length + 3 → j ≠ st.length + 4 → s[j]? = some o → s3[j]? = some o := fun hj h1 h3 h4 ho => by
      rw [← hs3, stW_out ⟨by show _ ≠ s.length + 1; omega, h1, by show _ ≠ s.length + 2; omega, h3, h4⟩]
      exact sUp _ _ ho
    have s3X : s3[s.length]? = _ := (show s3[s.length]? = s2[s.length]? by rw [← hs3, stW_out ⟨by show _ ≠ s.length + 1; omega, by show _ ≠ st.length + 1; omega, by show _ ≠ s.length + 2; omega, by show _ ≠ st.length + 3; omega, by show _ ≠ st.length + 4; omega⟩]).trans sX
    have s3e : ∃ ex, s3 = st ++ ex := by
      rw [← hs3]; unfold stW
      exact ex_set (ex_set (ex_set (ex_set (ex_set sEx (by show _ ≤ s.length + 1; omega) _) (by show _ ≤ st.length + 1; omega) _) (by show _ ≤ s.length + 2; omega) _) (by show _ ≤ st.length + 3; omega) _) (by show _ ≤ st.length + 4; omega) _
    rw [hs3] at hA3 ⊢
    have qX := cells_facts s3X
    simp -implicitDefEqProofs (maxSteps := 2000000) only [↓ops_nil, ↓ops_none, ↓ops_some, ↓kd_eff, ↓dr_nil, ↓dr_cons, ↓d1_none, ↓d1_some, ↓eff_store, ↓eff_box, ↓eff_alloc, ↓eff_build, ↓eff_buildSlice, ↓eff_call, ↓eff_append, ↓eff_copy, ↓eff_clear, ↓eff_make, ↓reduceIte, ↓c_condI, ↓c_seqH, ↓c_blockH, ↓then_nH, ↓then_rH, ↓then_eH, ↓block_nH, ↓block_rH, ↓block_eH, go_sem, qX.1, qX.2.1, qX.2.2]
    obtain ⟨s4, v4, s4w, s4o, s4e⟩ := gen_frz hA3
    have s4e := s4e st (by show _ ≤ s.length + 1; omega) (by show _ ≤ s.length + 2; omega) s3e
    have s4w : s4[s.length + 1]? = some (.cells [.ptr (st.length + 1) 0, .slice .imm 3 (g.code.map inSV)]) := s4w
    have s4o' : ∀ {j : Nat} {o : Ob}, j ≠ s.length + 1 → j ≠ s.length + 2 → s3[j]? = some o → s4[j]? = some o := fun h1 h2 ho => (s4o _ h1 h2).trans ho
    have k0 := s4o' (by omega) (by omega) (s3o (by omega) (by omega) (by omega) (by omega) i6)
    have k2 := s4o' (by omega) (by omega) (s3o (by omega) (by omega) (by omega) (by omega) i8)
    have k5 := s4o' (by omega) (by omega) (s3o (by omega) (by omega) (by omega) (by omega) i11)
    have kp : s4[st.length + 1]? = some (.cells [.slice .full 0 [], .slice (.own (st.length + 3) v'.vi) 1 (g.ints.map i64), .slice (.own (st.length + 4) v'.vt) 1 (g.texts.map str)]) := s4o' (by omega) (by omega) hA3.p
    have k3 : s4[st.length + 3]? = some (.tok v'.vi) := s4o' (by omega) (by omega) hA3.ti
    have k4 : s4[st.length + 4]? = some (.tok v'.vt) := s4o' (by omega) (by omega) hA3.tt
    have kX := s4o' (by omega) (by omega) s3X
    refine acalls_view v4 ?_
    refine needsA D hD f.body hfk _ _ ?_
    have qw := cells_facts s4w
    have q0 := cells_facts k0
    have q2 := cells_facts k2
    have qp := cells_facts kp
    have qX4 := cells_facts kX
    have hgl1 := hgok.1
    simp -implicitDefEqProofs (maxSteps := 2000000) only [↓ops_nil, ↓ops_none, ↓ops_some, ↓kd_eff, ↓dr_nil, ↓dr_cons, ↓d1_none, ↓d1_some, ↓eff_store, ↓eff_box, ↓eff_alloc, ↓eff_build, ↓eff_buildSlice, ↓eff_call, ↓eff_append, ↓eff_copy, ↓eff_clear, ↓eff_make, ↓reduceIte, ↓c_condI, ↓c_seqH, ↓c_blockH, ↓then_nH, ↓then_rH, ↓then_eH, ↓block_nH, ↓block_rH, ↓block_eH, go_sem, qw.1, qw.2.1, qw.2.2]
    refine anyFar_c g.code .imm 3 (fun _ => rfl) (by omega) _ _ ?_
    have fin16 : manyG D f.body g = true → ∀ s', (∃ ex, s' = st ++ ex) → FinT st K (.tuple [.agg [.slice .full 0 [], .slice .full 0 [], .slice .full 0 [], i64 0], i64 k, i64 16]) s' := fun hm s' hex => by
      rw [if_pos hm] at i1
      refine ⟨_, _, _, rfl, hex, ids_codes (m1 := .full) (m2 := .full) (m3 := .full) (z1 := 0) (z2 := 0) (z3 := 0) default, ?_⟩
      exact h default k 16 i1.symm 0 0 0 ⟨fun e => absurd rfl e, fun e => absurd rfl e, fun e => absurd rfl e⟩
    have e16 : ∀ o, ∃ ex, s4.set st.length o = st ++ ex := fun o => ex_set s4e (Nat.le_refl _) o
    unfold manyG at fin16
    cases x1 : g.code.any farI with
    | true =>
      simp -implicitDefEqProofs (maxSteps := 2000000) only [↓ops_nil, ↓ops_none, ↓ops_some, ↓kd_eff, ↓dr_nil, ↓dr_cons, ↓d1_none, ↓d1_some, ↓eff_store, ↓eff_box, ↓eff_alloc, ↓eff_build, ↓eff_buildSlice, ↓eff_call, ↓eff_append, ↓eff_copy, ↓eff_clear, ↓eff_make, ↓reduceIte, ↓c_condI, ↓c_seqH, ↓c_blockH, ↓then_nH, ↓then_rH, ↓then_eH, ↓block_nH, ↓block_rH, ↓block_eH, go_sem, x1, qw.1, qw.2.1, qw.2.2, q0.1, q0.2.1, q0.2.2]
      exact fin16 (by rw [x1]; rfl) _ (e16 _)
    | false =>
    by_cases x2 : 400 < g.code.length
    · have y2 : (400 : Int) < (g.code.length : Int) := by omega
      simp -implicitDefEqProofs (maxSteps := 2000000) only [↓ops_nil, ↓ops_none, ↓ops_some, ↓kd_eff, ↓dr_nil, ↓dr_cons, ↓d1_none, ↓d1_some, ↓eff_store, ↓eff_box, ↓eff_alloc, ↓eff_build, ↓eff_buildSlice, ↓eff_call, ↓eff_append, ↓eff_copy, ↓eff_clear, ↓eff_make, ↓reduceIte, ↓c_condI, ↓c_seqH, ↓c_blockH, ↓then_nH, ↓then_rH, ↓then_eH, ↓block_nH, ↓block_rH, ↓block_eH, go_sem, x1, y2, qw.1, qw.2.1, qw.2.2, q0.1, q0.2.1, q0.2.2, qp.1, qp.2.1, qp.2.2, List.length_map]
      exact fin16 (by simp only [x2, decide_true, Bool.true_or, Bool.or_true]) _ (e16 _)
    have y2 : ¬ (400 : Int) < (g.code.length : Int) := by omega
    by_cases x3 : 120 < g.ints.length
    · have y3 : (120 : Int) < (g.ints.length : Int) := by omega
      simp -implicitDefEqProofs (maxSteps := 2000000) only [↓ops_nil, ↓ops_none, ↓ops_some, ↓kd_eff, ↓dr_nil, ↓dr_cons, ↓d1_none, ↓d1_some, ↓eff_store, ↓eff_box, ↓eff_alloc, ↓eff_build, ↓eff_buildSlice, ↓eff_call, ↓eff_append, ↓eff_copy, ↓eff_clear, ↓eff_make, ↓reduceIte, ↓c_condI, ↓c_seqH, ↓c_blockH, ↓then_nH, ↓then_rH, ↓then_eH, ↓block_nH, ↓block_rH, ↓block_eH, go_sem, x1, y2, y3, qw.1, qw.2.1, qw.2.2, q0.1, q0.2.1, q0.2.2, qp.1, qp.2.1, qp.2.2, List.length_map]
      exact fin16 (by simp only [x3, decide_true, Bool.true_or, Bool.or_true]) _ (e16 _)
    have y3 : ¬ (120 : Int) < (g.ints.length : Int) := by omega
    by_cases x4 : 120 < g.texts.length
    · have y4 : (120 : Int) < (g.texts.length : Int) := by omega
      simp -implicitDefEqProofs (maxSteps := 2000000) only [↓ops_nil, ↓ops_none, ↓ops_some, ↓kd_eff, ↓dr_nil, ↓dr_cons, ↓d1_none, ↓d1_some, ↓eff_store, ↓eff_box, ↓eff_alloc, ↓eff_build, ↓eff_buildSlice, ↓eff_call, ↓eff_append, ↓eff_copy, ↓eff_clear, ↓eff_make, ↓reduceIte, ↓c_condI, ↓c_seqH, ↓c_blockH, ↓then_nH, ↓then_rH, ↓then_eH, ↓block_nH, ↓block_rH, ↓block_eH, go_sem, x1, y2, y3, y4, qw.1, qw.2.1, qw.2.2, q0.1, q0.2.1, q0.2.2, qp.1, qp.2.1, qp.2.2, List.length_map]
      exact fin16 (by simp only [x4, decide_true, Bool.true_or, Bool.or_true]) _ (e16 _)
    have y4 : ¬ (120 : Int) < (g.texts.length : Int) := by omega
    by_cases x5 : 60 < needsG D f.body
    · simp -implicitDefEqProofs (maxSteps := 2000000) only [↓ops_nil, ↓ops_none, ↓ops_some, ↓kd_eff, ↓dr_nil, ↓dr_cons, ↓d1_none, ↓d1_some, ↓eff_store, ↓eff_box, ↓eff_alloc, ↓eff_build, ↓eff_buildSlice, ↓eff_call, ↓eff_append, ↓eff_copy, ↓eff_clear, ↓eff_make, ↓reduceIte, ↓c_condI, ↓c_seqH, ↓c_blockH, ↓then_nH, ↓then_rH, ↓then_eH, ↓block_nH, ↓block_rH, ↓block_eH, go_sem, x1, y2, y3, y4, x5, qw.1, qw.2.1, qw.2.2, q0.1, q0.2.1, q0.2.2, qp.1, qp.2.1, qp.2.2, List.length_map]
      exact fin16 (by simp only [x5, decide_true, Bool.true_or, Bool.or_true]) _ (e16 _)
    have hmn : ¬ (g.code.any farI || (decide (400 < g.code.length) || (decide (120 < g.ints.length) || (decide (120 < g.texts.length) || decide (60 < needsG D f.body))))) = true := by
      simp [x1, x2, x3, x4, x5]
    unfold manyG at i1
    rw [if_neg hmn] at i1
    have happ := Tryz.app35 (n := bs.length + 1) (by omega)
    simp -implicitDefEqProofs (maxSteps := 2000000) only [↓ops_nil, ↓ops_none, ↓ops_some, ↓kd_eff, ↓dr_nil, ↓dr_cons, ↓d1_none, ↓d1_some, ↓eff_store, ↓eff_box, ↓eff_alloc, ↓eff_build, ↓eff_buildSlice, ↓eff_call, ↓eff_append, ↓eff_copy, ↓eff_clear, ↓eff_make, ↓reduceIte, ↓c_condI, ↓c_seqH, ↓c_blockH, ↓then_nH, ↓then_rH, ↓then_eH, ↓block_nH, ↓block_rH, ↓block_eH, go_sem, x1, y2, y3, y4, x5, qw.1, qw.2.1, qw.2.2, q0.1, q0.2.1, q0.2.2, qp.1, qp.2.1, qp.2.2, List.length_map]
    refine awp_drawW [18, 30] [(0, []), (0, []), (0, []), (0, []), (0, []), (0, []), (0, []), (0, []), (0, []), (0, []), (0, []), (0, []), (0, []), (3, [15]), (0, []), (1, [16])] Tryz.mixed rfl ?_
    simp -implicitDefEqProofs (maxSteps := 2000000) only [↓ops_nil, ↓ops_none, ↓ops_some, ↓kd_eff, ↓dr_nil, ↓dr_cons, ↓d1_none, ↓d1_some, ↓eff_store, ↓eff_box, ↓eff_alloc, ↓eff_build, ↓eff_buildSlice, ↓eff_call, ↓eff_append, ↓eff_copy, ↓eff_clear, ↓eff_make, ↓reduceIte, ↓c_condI, ↓c_seqH, ↓c_blockH, ↓then_nH, ↓then_rH, ↓then_eH, ↓block_nH, ↓block_rH, ↓block_eH, go_sem, drawW_n, drawW_0, drawW_1, drawW_2, drawW_3, pend_n, pend_c, headD_c, isStore_s, qw.1, qw.2.1, qw.2.2, q0.1, q0.2.1, q0.2.2, qp.1, qp.2.1, qp.2.2, List.length_map, q2.1, q2.2.1, q2.2.2, qX4.1, qX4.2.1, qX4.2.2]
    rw [dk_eff]
    refine ⟨bdSV ⟨f.kept, f.locals, needsG D f.body, g.code⟩, ?_, ?_⟩
    · simp -implicitDefEqProofs (maxSteps := 2000000) only [↓ops_nil, ↓ops_none, ↓ops_some, ↓kd_eff, ↓dr_nil, ↓dr_cons, ↓d1_none, ↓d1_some, ↓eff_store, ↓eff_box, ↓eff_alloc, ↓eff_build, ↓eff_buildSlice, ↓eff_call, ↓eff_append, ↓eff_copy, ↓eff_clear, ↓eff_make, ↓reduceIte, ↓c_condI, ↓c_seqH, ↓c_blockH, ↓then_nH, ↓then_rH, ↓then_eH, ↓block_nH, ↓block_rH, ↓block_eH, go_sem]
      exact ⟨⟨[], by simp⟩, ids_bd _ _, .inl rfl⟩
    rw [dk_eff]
    refine ⟨.slice .full 4 [bdSV ⟨f.kept, f.locals, needsG D f.body, g.code⟩], ?_, ?_⟩
    · simp -implicitDefEqProofs (maxSteps := 2000000) only [↓ops_nil, ↓ops_none, ↓ops_some, ↓kd_eff, ↓dr_nil, ↓dr_cons, ↓d1_none, ↓d1_some, ↓eff_store, ↓eff_box, ↓eff_alloc, ↓eff_build, ↓eff_buildSlice, ↓eff_call, ↓eff_append, ↓eff_copy, ↓eff_clear, ↓eff_make, ↓reduceIte, ↓c_condI, ↓c_seqH, ↓c_blockH, ↓then_nH, ↓then_rH, ↓then_eH, ↓block_nH, ↓block_rH, ↓block_eH, go_sem, bdSV, insSV]
      exact ⟨⟨[], by simp⟩, ids_bds2 _ _ (.inr rfl) [⟨f.kept, f.locals, needsG D f.body, g.code⟩], .inl rfl⟩
    have qt := tokAt_eq (v' := vf) k5
    simp -implicitDefEqProofs (maxSteps := 2000000) only [↓ops_nil, ↓ops_none, ↓ops_some, ↓kd_eff, ↓dr_nil, ↓dr_cons, ↓d1_none, ↓d1_some, ↓eff_store, ↓eff_box, ↓eff_alloc, ↓eff_build, ↓eff_buildSlice, ↓eff_call, ↓eff_append, ↓eff_copy, ↓eff_clear, ↓eff_make, ↓reduceIte, ↓c_condI, ↓c_seqH, ↓c_blockH, ↓then_nH, ↓then_rH, ↓then_eH, ↓block_nH, ↓block_rH, ↓block_eH, go_sem, drawW_n, drawW_0, drawW_1, drawW_2, drawW_3, pend_n, pend_c, headD_c, isStore_s, qw.1, qw.2.1, qw.2.2, q0.1, q0.2.1, q0.2.2, qp.1, qp.2.1, qp.2.2, List.length_map, q2.1, q2.2.1, q2.2.2, qX4.1, qX4.2.1, qX4.2.2, qt]
    obtain ⟨s5, hs5⟩ : ∃ s5, s4.set (st.length + 5) (.tok (vf + 1)) = s5 := ⟨_, rfl⟩
    have hl4 := lt_of_get k5
    have m2 : s5[st.length + 2]? = some (.cells [.slice (.own (st.length + 5) vf) 4 (bs.map bdSV), .slice .full 0 [], .slice .full 0 [], i64 lets]) := by rw [← hs5, set_get_ne (by omega)]; exact k2
    have r2 := cells_facts m2
    refine ⟨_, s5, ⟨happ, rfl, rfl, hs5⟩, ?_⟩
    simp -implicitDefEqProofs (maxSteps := 2000000) only [↓ops_nil, ↓ops_none, ↓ops_some, ↓kd_eff, ↓dr_nil, ↓dr_cons, ↓d1_none, ↓d1_some, ↓eff_store, ↓eff_box, ↓eff_alloc, ↓eff_build, ↓eff_buildSlice, ↓eff_call, ↓eff_append, ↓eff_copy, ↓eff_clear, ↓eff_make, ↓reduceIte, ↓c_condI, ↓c_seqH, ↓c_blockH, ↓then_nH, ↓then_rH, ↓then_eH, ↓block_nH, ↓block_rH, ↓block_eH, go_sem, drawW_n, drawW_0, drawW_1, drawW_2, drawW_3, pend_n, pend_c, headD_c, isStore_s, r2.1, r2.2.1, r2.2.2, hw]
    have hbs : (bs ++ [(⟨f.kept, f.locals, needsG D f.body, g.code⟩ : Bd)]).map bdSV = bs.map bdSV ++ [bdSV ⟨f.kept, f.locals, needsG D f.body, g.code⟩] := by simp
    refine ⟨b - 1, [.any, .any, .any, .any, .any, .any, .ptr st.length 0, .any, .any, .ptr (st.length + 1) 0, .ptr (st.length + 2) 0, .any, .any, .any, .any, .any, .any, .any, .any, .any, .any, .slice m0 11 (l.map fuSV), i64 l.length, i64 ((k + 1 : Nat) : Int), .any, .any, .any, .any, .any, .any, .any, .any, .any, .any, .any, .any, .any, .any, .any, .any, .any, .any, .any, .any, .any, .any, .any, .any, .any, .any, .any, .any, .any, .any, .any, .any, .any, .any, .any, .any, .any, .any, .any, .any, .any, .any, .any, .any, .any, .any, .any, .any, .any, .any, .any, .any, .any, .any, .any, .any, .any, .any, .any, .any, .any, .any, .any, .any, .any, .any, .any, .any, .any, .any, .any, .any, .any, .any, .any, .any, .any, .any, .any, .any, .any], by omega, ?_, k + 1, g.ints, g.texts, bs ++ [⟨f.kept, f.locals, needsG D f.body, g.code⟩], v'.vi, v'.vt, vf + 1, ?_, rfl⟩
    · repeat (first | exact leEnv_nil | refine leEnv_any _ ?_ | refine leEnv_same _ ?_ | refine leEnv_norm _ ?_)
    have hl2 := lt_of_get k2
    refine ⟨i1, by omega, by omega, by omega, by simp [i5], ?_, ?_, ?_, ?_, ?_, ?_, ?_, ?_⟩
    · rw [set_get_ne (by omega), ← hs5, set_get_ne (by omega)]; exact k0
    · rw [set_get_ne (by omega), ← hs5, set_get_ne (by omega)]; exact kp
    · rw [set_get (by rw [← hs5]; simpa using hl2), hbs]
    · rw [set_get_ne (by omega), ← hs5, set_get_ne (by omega)]; exact k3
    · rw [set_get_ne (by omega), ← hs5, set_get_ne (by omega)]; exact k4
    · rw [set_get_ne (by omega), ← hs5, set_get (by omega)]
    · have := lt_of_get i12
      rw [set_get_ne (by omega), ← hs5, set_get_ne (by omega)]
      exact s4o' (by omega) (by omega) (s3o (by omega) (by omega) (by omega) (by omega) i12)
    · rw [← hs5]; exact ex_set (ex_set s4e (by omega) _) (by omega) _
  · obtain rfl : k = l.length := by omega
    have c1 : ¬ (l.length : Int) < (l.length : Int) := by omega
    rw [List.drop_length, genL_nil] at i1
    have q0 := cells_facts i6
    have qp := cells_facts i7
    have q2 := cells_facts i8
    simp -implicitDefEqProofs (maxSteps := 2000000) only [↓ops_nil, ↓ops_none, ↓ops_some, ↓kd_eff, ↓dr_nil, ↓dr_cons, ↓d1_none, ↓d1_some, ↓eff_store, ↓eff_box, ↓eff_alloc, ↓eff_build, ↓eff_buildSlice, ↓eff_call, ↓eff_append, ↓eff_copy, ↓eff_clear, ↓eff_make, ↓reduceIte, ↓c_condI, ↓c_seqH, ↓c_blockH, ↓then_nH, ↓then_rH, ↓then_eH, ↓block_nH, ↓block_rH, ↓block_eH, go_sem, c1]
    refine awp_drawW [18, 30] [(0, []), (0, []), (0, []), (0, []), (0, [11]), (0, [11]), (0, [11]), (0, [11]), (0, []), (1, [11]), (0, []), (1, [12])] Tryz.mixed rfl ?_
    have hp2 : ¬ (st.length + 1 = st.length + 2) := by omega
    have hp3 : ¬ (st.length + 2 = st.length + 1) := by omega
    simp -implicitDefEqProofs (maxSteps := 2000000) only [↓ops_nil, ↓ops_none, ↓ops_some, ↓kd_eff, ↓dr_nil, ↓dr_cons, ↓d1_none, ↓d1_some, ↓eff_store, ↓eff_box, ↓eff_alloc, ↓eff_build, ↓eff_buildSlice, ↓eff_call, ↓eff_append, ↓eff_copy, ↓eff_clear, ↓eff_make, ↓reduceIte, ↓c_condI, ↓c_seqH, ↓c_blockH, ↓then_nH, ↓then_rH, ↓then_eH, ↓block_nH, ↓block_rH, ↓block_eH, go_sem, drawW_n, drawW_0, drawW_1, drawW_2, drawW_3, pend_n, pend_c, headD_c, isStore_s, q0.1, q0.2.1, q0.2.2, qp.1, qp.2.1, qp.2.2, q2.1, q2.2.1, q2.2.2, hp2, hp3]
    refine vcode_c ⟨bs, is, ts, lets⟩ ⟨fun _ => rfl, fun _ => rfl, fun _ => rfl⟩ _ _ ?_
    obtain ⟨s5, hs5⟩ : ∃ s5, s.set (st.length + 2) (.cells (cdCells (.own (st.length + 5) vf) (.own (st.length + 3) vi) (.own (st.length + 4) vt) 4 1 1 ⟨bs, is, ts, lets⟩)) = s5 := ⟨_, rfl⟩
    have hl2 := lt_of_get i8
    have r2 := cells_facts (show s5[st.length + 2]? = some (.cells [.slice (.own (st.length + 5) vf) 4 (bs.map bdSV), .slice (.own (st.length + 3) vi) 1 (is.map i64), .slice (.own (st.length + 4) vt) 1 (ts.map str), i64 lets]) by rw [← hs5, set_get (by omega)]; rfl)
    have r0 := cells_facts (show s5[st.length]? = some (.cells [.slice .full 0 [], .slice .full 0 [], .slice .full 0 [], i64 0]) by rw [← hs5, set_get_ne (by omega)]; exact i6)
    have hex5 : ∃ ex, s5 = st ++ ex := by rw [← hs5]; exact ex_set i13 (by omega) _
    have hs5' : s.set (st.length + 2) (.cells [.slice (.own (st.length + 5) vf) 4 (bs.map bdSV), .slice (.own (st.length + 3) vi) 1 (is.map i64), .slice (.own (st.length + 4) vt) 1 (ts.map str), i64 lets]) = s5 := hs5
    rw [hs5']
    by_cases hc : codeF ⟨bs, is, ts, lets⟩ = 0
    · rw [if_pos hc] at i1
      have b0 : (codeF ⟨bs, is, ts, lets⟩ != 0) = false := by simp [hc]
      simp -implicitDefEqProofs (maxSteps := 2000000) only [↓ops_nil, ↓ops_none, ↓ops_some, ↓kd_eff, ↓dr_nil, ↓dr_cons, ↓d1_none, ↓d1_some, ↓eff_store, ↓eff_box, ↓eff_alloc, ↓eff_build, ↓eff_buildSlice, ↓eff_call, ↓eff_append, ↓eff_copy, ↓eff_clear, ↓eff_make, ↓reduceIte, ↓c_condI, ↓c_seqH, ↓c_blockH, ↓then_nH, ↓then_rH, ↓then_eH, ↓block_nH, ↓block_rH, ↓block_eH, go_sem, b0, r0.1, r0.2.1, r0.2.2, r2.1, r2.2.1, r2.2.2]
      exact ⟨_, _, _, rfl, ex_set hex5 (Nat.le_refl _) _, ids_codes (m1 := .own (st.length + 5) vf) (m2 := .own (st.length + 3) vi) (m3 := .own (st.length + 4) vt) (z1 := 4) (z2 := 1) (z3 := 1) ⟨bs, is, ts, lets⟩, h _ _ _ i1.symm 4 1 1 ⟨fun _ => rfl, fun _ => rfl, fun _ => rfl⟩⟩
    · rw [if_neg hc] at i1
      have b0 : (codeF ⟨bs, is, ts, lets⟩ != 0) = true := by simp [hc]
      simp -implicitDefEqProofs (maxSteps := 2000000) only [↓ops_nil, ↓ops_none, ↓ops_some, ↓kd_eff, ↓dr_nil, ↓dr_cons, ↓d1_none, ↓d1_some, ↓eff_store, ↓eff_box, ↓eff_alloc, ↓eff_build, ↓eff_buildSlice, ↓eff_call, ↓eff_append, ↓eff_copy, ↓eff_clear, ↓eff_make, ↓reduceIte, ↓c_condI, ↓c_seqH, ↓c_blockH, ↓then_nH, ↓then_rH, ↓then_eH, ↓block_nH, ↓block_rH, ↓block_eH, go_sem, b0, r0.1, r0.2.1, r0.2.2, r2.1, r2.2.1, r2.2.2]
      exact ⟨_, _, _, rfl, ex_set hex5 (Nat.le_refl _) _, ids_codes (m1 := .full) (m2 := .full) (m3 := .full) (z1 := 0) (z2 := 0) (z3 := 0) default, h default 0 1 i1.symm 0 0 0 ⟨fun e => absurd rfl e, fun e => absurd rfl e, fun e => absurd rfl e⟩⟩
end Go.Proofs
