/- The reference: Abort. -/
import Derived.Test.YteclbnjpijakbaaR9
set_option linter.unusedSimpArgs false
set_option linter.unusedVariables false
set_option maxRecDepth 8000
namespace Go.Proofs
open Go Go.AL

def abortR (R : RP) (t : Int) : Int × RP := if R.has t = true ∧ (R.get t).stamp ≤ 0 then (0, { R with vars := R.vars.map (unlock t), txs := R.txs.set t.toNat .none }) else (1, R)

set_option maxHeartbeats 4000000 in
theorem rabort_c {st : St} {R : RG} (hR : RefAt st R) (t : Int) (K : SV → St → Prop)
    (h : ∀ s R', RefAt s R' → RFr st R s R' → R'.abs = (abortR R.abs t).2 → K (i64 (abortR R.abs t).1) s) : ACalls Try.prog 34 [.ptr R.id 0, i64 t] K st := by
  have hh := has_c hR t
  have f := cells_facts hR.cells
  have g := cells_facts hR.txs
  unfold abortR at h
  cases hb : R.abs.has t with
  | false =>
    rw [hb] at hh
    rw [if_neg (by rw [hb]; simp)] at h
    refine acalls_go (M := []) Try.func34 rfl Try.results34 Try.ntmps34 ?_
    simp only [go_sem, reduceCtorEq, Nat.reduceAdd, Nat.reduceMul, Nat.reduceLeDiff, Nat.reduceLT, Int.reduceLE, Int.reduceLT, Int.reduceEq, Nat.reduceBEq, Nat.reduceEqDiff]
    refine hh _ ?_
    simp only [go_sem, reduceCtorEq, Nat.reduceAdd, Nat.reduceMul, Nat.reduceLeDiff, Nat.reduceLT, Int.reduceLE, Int.reduceLT, Int.reduceEq, Nat.reduceBEq, Nat.reduceEqDiff]
    exact h st R hR (RFr.refl _ _) rfl
  | true =>
    rw [hb] at hh
    have ho := rhas_get hb
    obtain ⟨y, hy, hg⟩ := hR.at ho.1
    rw [hg] at h
    have d := rx_all hy
    have c3 : t < ((8 : Nat) : Int) := ho.1.2
    by_cases e1 : 0 < y.x.stamp
    · rw [if_neg (fun c => by omega)] at h
      refine acalls_go (M := []) Try.func34 rfl Try.results34 Try.ntmps34 ?_
      simp only [go_sem, reduceCtorEq, Nat.reduceAdd, Nat.reduceMul, Nat.reduceLeDiff, Nat.reduceLT, Int.reduceLE, Int.reduceLT, Int.reduceEq, Nat.reduceBEq, Nat.reduceEqDiff]
      refine hh _ ?_
      simp only [go_sem, reduceCtorEq, Nat.reduceAdd, Nat.reduceMul, Nat.reduceLeDiff, Nat.reduceLT, Int.reduceLE, Int.reduceLT, Int.reduceEq, Nat.reduceBEq, Nat.reduceEqDiff, f.1, f.2.1, f.2.2, RG.cells, g.1, g.2.1, g.2.2, d.1, d.2.1, d.2.2.1, d.2.2.2.1, d.2.2.2.2.1, d.2.2.2.2.2.1, d.2.2.2.2.2.2.1, d.2.2.2.2.2.2.2, ho.1.1, c3, e1]
      exact h st R hR (RFr.refl _ _) rfl
    · rw [if_pos ⟨hb, by omega⟩] at h
      refine acalls_conv ?_
      refine acalls_go (M := []) Try.func34 rfl Try.results34 Try.ntmps34 ?_
      simp only [go_sem, reduceCtorEq, Nat.reduceAdd, Nat.reduceMul, Nat.reduceLeDiff, Nat.reduceLT, Int.reduceLE, Int.reduceLT, Int.reduceEq, Nat.reduceBEq, Nat.reduceEqDiff]
      refine hh _ ?_
      simp only [go_sem, reduceCtorEq, Nat.reduceAdd, Nat.reduceMul, Nat.reduceLeDiff, Nat.reduceLT, Int.reduceLE, Int.reduceLT, Int.reduceEq, Nat.reduceBEq, Nat.reduceEqDiff, f.1, f.2.1, f.2.2, RG.cells, g.1, g.2.1, g.2.2, d.1, d.2.1, d.2.2.1, d.2.2.2.1, d.2.2.2.2.1, d.2.2.2.2.2.1, d.2.2.2.2.2.2.1, d.2.2.2.2.2.2.2, ho.1.1, c3, e1]
      refine awp_rounds [] (fun m e s => ∃ (k : Nat), k + m = R.vars.length ∧ e = [.ptr R.id 0, i64 t, .any, .any, .any, .any, i64 k, .any, .any, .any, .any, .any, .any, .any, .any, .any, .any, .any, .any, .any, .any, .any, .any, .any, .any, .any, .any, .any, .any, .any, .any, .any, .any, .any, .any, .any, .any, .any, .any, .any, .any, .any, .any, .any, .any, .any, .any, .any, .any, .any, .any, .any, .any, .any, .any, .any] ∧ s = st.set R.vid (.arr R.vver 3 ((someVars (unlock t) k R.vars).flatMap tvSV))) (n := R.vars.length) ?_ ⟨0, by omega, rfl, ?_⟩ ?_
      · repeat (first | exact leEnv_nil | refine leEnv_any _ ?_ | refine leEnv_same _ ?_ | refine leEnv_norm _ ?_)
      · rw [someVars_0, st_same hR.vars]
      rintro m e s ⟨k, hkm, rfl, hs⟩
      have h1 : s[R.id]? = some (.cells R.cells) := by rw [hs, List.getElem?_set_ne hR.nidv.symm]; exact hR.cells
      have h2 : s[R.vid]? = some (.arr R.vver 3 ((someVars (unlock t) k R.vars).flatMap tvSV)) := by rw [hs, List.getElem?_set_self (lt_of_get hR.vars)]
      have h3 : s[R.tid]? = some (.cells (R.xs.flatMap RX.cells)) := by rw [hs, List.getElem?_set_ne hR.ntv.symm]; exact hR.txs
      have f1 := cells_facts h1
      have w1 := arr_facts h2
      have g1 := cells_facts h3
      by_cases hlt : k < R.vars.length
      · have c1 : (k : Int) < (R.vars.length : Int) := by omega
        have hw := wrapS k (by have := hR.many; omega)
        have c2 : (0 : Int) ≤ (k : Int) := by omega
        have hv := vars_drop2 (l := someVars (unlock t) k R.vars) (n := k) (by rw [someVars_len]; exact hlt)
        rw [someVars_get _ hlt] at hv
        have hsu := someVars_succ (unlock t) hlt
        have hlt2 : k < (someVars (unlock t) k R.vars).length := by rw [someVars_len]; exact hlt
        have hgy := someVars_get (unlock t) hlt
        generalize someVars (unlock t) k R.vars = vs at *
        generalize hyv : R.vars.getD k default = z at *
        simp only [go_sem, reduceCtorEq, Nat.reduceAdd, Nat.reduceMul, Nat.reduceLeDiff, Nat.reduceLT, Int.reduceLE, Int.reduceLT, Int.reduceEq, Nat.reduceBEq, Nat.reduceEqDiff, c1, c2, f1.1, f1.2.1, f1.2.2, RG.cells, w1.1, w1.2.1, w1.2.2.1, w1.2.2.2, hv, hw, Int.toNat_natCast]
        have hvk : k < vs.length := hlt2
        refine ⟨fun c => ⟨by rw [vars_len]; omega, m - 1, _, by omega, ?_, k + 1, by omega, rfl, ?_⟩, fun c => ⟨m - 1, _, by omega, ?_, k + 1, by omega, rfl, ?_⟩⟩
        · repeat (first | exact leEnv_nil | refine leEnv_any _ ?_ | refine leEnv_same _ ?_ | refine leEnv_norm _ ?_)
        · have e := vars_put2 hvk (-1)
          rw [show SV.sc (Value.int IntKind.i64 (-1)) = i64 (-1) from rfl, e, hs, List.set_set, hsu, hgy]
          have c' : z.lock = t := by simpa using c
          simp only [unlock, c', if_true]
        · repeat (first | exact leEnv_nil | refine leEnv_any _ ?_ | refine leEnv_same _ ?_ | refine leEnv_norm _ ?_)
        · have c' : ¬ z.lock = t := by simpa using c
          rw [hsu, hs]
          simp only [unlock, c', if_false]
          rw [← hgy, set_getD hvk]
      · obtain rfl : k = R.vars.length := by omega
        rw [someVars_all] at h2 hs
        have key := ref_core (s := s) (R' := { R with vars := R.vars.map (unlock t) }) hR rfl rfl rfl rfl (by rw [h1]; simp [RG.cells]) h2 (by simpa using hR.many) (by rw [hs]; simp) (fun j _ q _ => by rw [hs, List.getElem?_set_ne (Ne.symm q)])
        obtain ⟨s2, R', k1, k2, k3, k4⟩ := ref_fresh key.1 hy .none rfl rfl
        simp only [go_sem, reduceCtorEq, Nat.reduceAdd, Nat.reduceMul, Nat.reduceLeDiff, Nat.reduceLT, Int.reduceLE, Int.reduceLT, Int.reduceEq, Nat.reduceBEq, Nat.reduceEqDiff, Int.lt_irrefl, f1.1, f1.2.1, f1.2.2, RG.cells, w1.1, w1.2.1, w1.2.2.1, w1.2.2.2, g1.1, g1.2.1, g1.2.2, ho.1.1, c3]
        refine ⟨by rw [rx_len hR]; omega, s2, k1, h _ _ k2 (key.2.trans k3) k4⟩

end Go.Proofs
set_option linter.unusedSimpArgs false
set_option linter.unusedVariables false
set_option maxRecDepth 8000
namespace Go.Proofs
open Go Go.AL

def RT.commit (x : RT) : RT := { x with commits := true }

/-- The first var that is not yet one's own is another's, or is locked. -/
def lockRF (t : Int) (vars : List TV) : List PW → Option ((Int × Int) × List TV)
  | [] => none
  | p :: r => if (vars.getD p.n.toNat default).lock = t then lockRF t vars r else
    if 0 ≤ (vars.getD p.n.toNat default).lock then some ((0, 32), vars) else some ((1, 0), vars.set p.n.toNat { vars.getD p.n.toNat default with lock := t })

def stepR (R : RP) (t : Int) : (Int × Int) × RP :=
  if R.has t = true ∧ (R.get t).parts ≤ 1 then
    if 0 < (R.get t).stamp then
      let p := (sortR 1 (R.get t).puts).getD (R.get t).done.toNat default
      let R1 : RP := { R with vars := R.vars.set p.n.toNat ⟨p.v, (R.get t).stamp, -1⟩ }
      if (R.get t).done + 1 < ((sortR 1 (R.get t).puts).length : Int) then ((3, 0), R1.put t { (R.get t).commit with done := (R.get t).done + 1 }) else ((4, 0), R1.put t .none)
    else match lockRF t R.vars (sortR 1 (R.get t).puts) with
    | some (a, vs) => (a, { R.put t (R.get t).commit with vars := vs })
    | none => if validR t (R.get t).start R.vars (R.get t).reads ≠ 0 then ((0, validR t (R.get t).start R.vars (R.get t).reads), R.put t (R.get t).commit) else
      if sortR 1 (R.get t).puts = [] then ((4, 0), R.put t .none) else
      ((2, 0), { R.put t { (R.get t).commit with stamp := R.clock + 1 } with clock := R.clock + 1 })
  else ((0, 1), R)

theorem sortG_mem {part : Int} {l : List PW} : ∀ {f : Nat} {last : Int} {p : PW}, p ∈ sortG part l f last → p ∈ l ∧ p.part = part := by
  intro f
  induction f with
  | zero => intro last p h; cases h
  | succ f ih =>
    intro last p h
    unfold sortG at h
    split at h
    · cases h
    · rename_i q hq
      rcases List.mem_cons.1 h with rfl | h
      · have := (scan_some hq).resolve_left (by intro e; cases e)
        exact ⟨this.1, this.2.1⟩
      · exact ih h
theorem sortG_len {part : Int} {l : List PW} : ∀ (f : Nat) (last : Int), (sortG part l f last).length ≤ left part last l := by
  intro f
  induction f with
  | zero => intro last; simp [sortG]
  | succ f ih =>
    intro last
    unfold sortG
    split
    · simp
    · rename_i q hq
      have := (scan_some hq).resolve_left (by intro e; cases e)
      have h2 := left_lt this.1 this.2.1 this.2.2
      have := ih q.n
      simp only [List.length_cons]; omega
theorem sortR_len (part : Int) (l : List PW) : (sortR part l).length ≤ l.length := Nat.le_trans (sortG_len _ _) (left_le _ _ _)

set_option maxHeartbeats 8000000 in
theorem rstep_c {st : St} {R : RG} (hR : RefAt st R) {b : Nat} (hF : FineR b R.abs) (t : Int) (hD : 0 < (R.abs.get t).stamp → 0 ≤ (R.abs.get t).done ∧ (R.abs.get t).done < ((sortR 1 (R.abs.get t).puts).length : Int)) (K : SV → St → Prop)
    (h : ∀ s R', RefAt s R' → RFr st R s R' → R'.abs = (stepR R.abs t).2 → K (.tuple [i64 (stepR R.abs t).1.1, i64 (stepR R.abs t).1.2]) s) : ACalls Try.prog 35 [.ptr R.id 0, i64 t] K st := by
  have hh := has_c hR t
  have f := cells_facts hR.cells
  have g := cells_facts hR.txs
  unfold stepR at h
  cases hb : R.abs.has t with
  | false =>
    rw [hb] at hh
    rw [if_neg (by rw [hb]; simp)] at h
    refine acalls_go (M := []) Try.func35 rfl Try.results35 Try.ntmps35 ?_
    simp only [go_sem, reduceCtorEq, Nat.reduceAdd, Nat.reduceMul, Nat.reduceLeDiff, Nat.reduceLT, Int.reduceLE, Int.reduceLT, Int.reduceEq, Nat.reduceBEq, Nat.reduceEqDiff]
    refine hh _ ?_
    simp only [go_sem, reduceCtorEq, Nat.reduceAdd, Nat.reduceMul, Nat.reduceLeDiff, Nat.reduceLT, Int.reduceLE, Int.reduceLT, Int.reduceEq, Nat.reduceBEq, Nat.reduceEqDiff]
    exact h st R hR (RFr.refl _ _) rfl
  | true =>
    rw [hb] at hh
    have ho := rhas_get hb
    obtain ⟨y, hy, hg⟩ := hR.at ho.1
    rw [hg] at h hD
    have d := rx_all hy
    have c3 : t < ((8 : Nat) : Int) := ho.1.2
    by_cases e1 : 1 < y.x.parts
    · rw [if_neg (fun c => by omega)] at h
      refine acalls_go (M := []) Try.func35 rfl Try.results35 Try.ntmps35 ?_
      simp only [go_sem, reduceCtorEq, Nat.reduceAdd, Nat.reduceMul, Nat.reduceLeDiff, Nat.reduceLT, Int.reduceLE, Int.reduceLT, Int.reduceEq, Nat.reduceBEq, Nat.reduceEqDiff]
      refine hh _ ?_
      simp only [go_sem, reduceCtorEq, Nat.reduceAdd, Nat.reduceMul, Nat.reduceLeDiff, Nat.reduceLT, Int.reduceLE, Int.reduceLT, Int.reduceEq, Nat.reduceBEq, Nat.reduceEqDiff, f.1, f.2.1, f.2.2, RG.cells, g.1, g.2.1, g.2.2, d.1, d.2.1, d.2.2.1, d.2.2.2.1, d.2.2.2.2.1, d.2.2.2.2.2.1, d.2.2.2.2.2.2.1, d.2.2.2.2.2.2.2, ho.1.1, c3, e1]
      exact h st R hR (RFr.refl _ _) rfl
    · rw [if_pos ⟨hb, by omega⟩] at h
      -- commits
      obtain ⟨y1, hy1⟩ : ∃ y1, y1 = ({ y with x := y.x.commit } : RX) := ⟨_, rfl⟩
      have hx1 : (R.xs.set t.toNat y1)[t.toNat]? = some y1 := List.getElem?_set_self (lt_of_get hy)
      obtain ⟨s1, hs1⟩ : ∃ s1, s1 = st.set R.tid (.cells ((R.xs.set t.toNat y1).flatMap RX.cells)) := ⟨_, rfl⟩
      have hse1 : st.set R.tid (.cells ((R.xs.flatMap RX.cells).take (t.toNat * 8 + 5) ++ .sc (.bool true) :: i64 y.x.stamp :: i64 y.x.done :: (R.xs.flatMap RX.cells).drop (t.toNat * 8 + 8))) = s1 := by
        rw [hs1]
        congr 2
        exact rx_put (y' := y1) hy 5 [.sc (.bool true), i64 y.x.stamp, i64 y.x.done] rfl (by decide) (by rw [hy1]; rfl)
      have key1 := ref_rec hR hy (y' := y1) (by rw [hy1]) (by rw [hy1]) (by rw [hy1]) (by rw [hy1]) (by rw [hy1]; rfl)
      rw [← hs1] at key1
      obtain ⟨hR1, hF1⟩ := key1
      obtain ⟨R1, hR1d⟩ : ∃ R1, R1 = R.setX t.toNat y1 := ⟨_, rfl⟩
      have f1 : inS s1 R.id = True ∧ isObj s1 R.id = True ∧ objAt s1 R.id = [i64 R.clock, .arr R.vid R.vver R.vars.length, .slc R.tid 8 0 8 8] := cells_facts hR1.cells
      have g1 : inS s1 R.tid = True ∧ isObj s1 R.tid = True ∧ objAt s1 R.tid = (R.xs.set t.toNat y1).flatMap RX.cells := cells_facts hR1.txs
      have v1 : inS s1 R.vid = True ∧ arrOk s1 R.vid R.vver = True ∧ arrZ s1 R.vid = 3 ∧ arrC s1 R.vid = R.vars.flatMap tvSV := arr_facts hR1.vars
      have d1 := rx_all hx1
      have ey : y1.rid = y.rid ∧ y1.rver = y.rver ∧ y1.pid = y.pid ∧ y1.pver = y.pver ∧ y1.x.is = y.x.is ∧ y1.x.start = y.x.start ∧ y1.x.reads = y.x.reads ∧ y1.x.puts = y.x.puts ∧ y1.x.parts = y.x.parts ∧ y1.x.commits = true ∧ y1.x.stamp = y.x.stamp ∧ y1.x.done = y.x.done := by
        rw [hy1]; exact ⟨rfl, rfl, rfl, rfl, rfl, rfl, rfl, rfl, rfl, rfl, rfl, rfl⟩
      rw [ey.1, ey.2.1, ey.2.2.1, ey.2.2.2.1, ey.2.2.2.2.1, ey.2.2.2.2.2.1, ey.2.2.2.2.2.2.1, ey.2.2.2.2.2.2.2.1, ey.2.2.2.2.2.2.2.2.1, ey.2.2.2.2.2.2.2.2.2.1, ey.2.2.2.2.2.2.2.2.2.2.1, ey.2.2.2.2.2.2.2.2.2.2.2] at d1
      have hpu := hF.puts _ _ (hF.at hy)
      have hsm := hF.small
      have hputs1 : s1[y.pid]? = some (.arr y.pver 3 (y.x.puts.flatMap pwSV)) := by
        have := hR1.puts _ _ hx1
        rw [hy1] at this
        exact this
      have hsort := rsorted_c hputs1 (by omega) 1
      obtain ⟨l, hl⟩ : ∃ l, l = sortR 1 y.x.puts := ⟨_, rfl⟩
      have hll : l.length ≤ 90000 := by rw [hl]; have := sortR_len 1 y.x.puts; omega
      have hmem : ∀ p ∈ l, 0 ≤ p.n ∧ p.n < (R.vars.length : Int) := fun p hp => hpu.1 p (sortG_mem (by rw [hl] at hp; exact hp)).1
      rw [← hl] at h hD hsort
      by_cases e2 : 0 < y.x.stamp
      · rw [if_pos e2] at h
        obtain ⟨q0, q1⟩ := hD e2
        have hdl : y.x.done.toNat < l.length := by omega
        obtain ⟨p, hp⟩ : ∃ p, p = l.getD y.x.done.toNat default := ⟨_, rfl⟩
        have hko : (l.map pwV).getD y.x.done.toNat .any = pwV p := by rw [hp]; simp [List.getD_eq_getElem?_getD, hdl]
        have hpm := hmem p (by rw [hp]; simp [List.getD_eq_getElem?_getD, hdl])
        rw [← hp] at h
        -- a box for the write
        have hA := hR1.app [Ob.cells (pwSV p)]
        obtain ⟨s2, hs2⟩ : ∃ s2, s2 = s1 ++ [Ob.cells (pwSV p)] := ⟨_, rfl⟩
        have hse2 : s1 ++ [Ob.cells [i64 p.n, i64 p.v, i64 p.part]] = s2 := hs2.symm
        rw [← hs2] at hA
        obtain ⟨hR2, hF2⟩ := hA
        have f2 : inS s2 R.id = True ∧ isObj s2 R.id = True ∧ objAt s2 R.id = [i64 R.clock, .arr R.vid R.vver R.vars.length, .slc R.tid 8 0 8 8] := cells_facts hR2.cells
        have g2 : inS s2 R.tid = True ∧ isObj s2 R.tid = True ∧ objAt s2 R.tid = (R.xs.set t.toNat y1).flatMap RX.cells := cells_facts hR2.txs
        have v2 : inS s2 R.vid = True ∧ arrOk s2 R.vid R.vver = True ∧ arrZ s2 R.vid = 3 ∧ arrC s2 R.vid = R.vars.flatMap tvSV := arr_facts hR2.vars
        have hbox : s2[s1.length]? = some (.cells (pwSV p)) := by rw [hs2]; simp
        have b2 : inS s2 s1.length = True ∧ isObj s2 s1.length = True ∧ objAt s2 s1.length = [i64 p.n, i64 p.v, i64 p.part] := cells_facts hbox
        -- the var is written
        obtain ⟨vs, hvs⟩ : ∃ vs, vs = R.vars.set p.n.toNat ⟨p.v, y.x.stamp, -1⟩ := ⟨_, rfl⟩
        have hvl : vs.length = R.vars.length := by rw [hvs, List.length_set]
        obtain ⟨s3, hs3⟩ : ∃ s3, s3 = s2.set R.vid (.arr R.vver 3 (vs.flatMap tvSV)) := ⟨_, rfl⟩
        have key3 := ref_core (s := s3) (R' := { R.setX t.toNat y1 with vars := vs }) hR2 rfl rfl rfl rfl
          (by rw [hs3]; exact (List.getElem?_set_ne hR.nidv.symm).trans (hR2.cells.trans (by simp [RG.cells, RG.setX, hvl]))) (by rw [hs3]; exact List.getElem?_set_self (lt_of_get hR2.vars)) (by show vs.length ≤ 4000; rw [hvl]; exact hR.many) (by rw [hs3]; simp) (fun j _ q _ => by rw [hs3]; exact List.getElem?_set_ne (Ne.symm q))
        obtain ⟨hR3, hF3⟩ := key3
        have f3 : inS s3 R.id = True ∧ isObj s3 R.id = True ∧ objAt s3 R.id = [i64 R.clock, .arr R.vid R.vver vs.length, .slc R.tid 8 0 8 8] := cells_facts hR3.cells
        have g3 : inS s3 R.tid = True ∧ isObj s3 R.tid = True ∧ objAt s3 R.tid = (R.xs.set t.toNat y1).flatMap RX.cells := cells_facts hR3.txs
        have hpn : p.n.toNat < R.vars.length := by omega
        have hse3 : s2.set R.vid (.arr R.vver 3 ((R.vars.flatMap tvSV).take (p.n.toNat * 3) ++ (i64 p.v :: i64 y.x.stamp :: i64 (-1) :: (R.vars.flatMap tvSV).drop (p.n.toNat * 3 + 3)))) = s3 := by
          rw [hs3, hvs]
          congr 2
          exact vars_put hpn ⟨p.v, y.x.stamp, -1⟩
        -- one more is done
        have hwd : IntKind.i64.wrap (y.x.done + 1) = y.x.done + 1 := by rw [IntWalk.i64_in _ (by omega)]
        obtain ⟨y2, hy2⟩ : ∃ y2, y2 = ({ y1 with x := { y1.x with done := y.x.done + 1 } } : RX) := ⟨_, rfl⟩
        have key4 := ref_rec hR3 hx1 (y' := y2) (by rw [hy2]) (by rw [hy2]) (by rw [hy2]) (by rw [hy2]) (by rw [hy2])
        have hxx : (({ R.setX t.toNat y1 with vars := vs } : RG).xs.set t.toNat y2) = R.xs.set t.toNat y2 := by simp [RG.setX, List.set_set]
        rw [hxx] at key4
        obtain ⟨s4, hs4⟩ : ∃ s4, s4 = s3.set R.tid (.cells ((R.xs.set t.toNat y2).flatMap RX.cells)) := ⟨_, rfl⟩
        have hse4 : s3.set R.tid (.cells (((R.xs.set t.toNat y1).flatMap RX.cells).take (t.toNat * 8 + 7) ++ i64 (y.x.done + 1) :: ((R.xs.set t.toNat y1).flatMap RX.cells).drop (t.toNat * 8 + 8))) = s4 := by
          rw [hs4]
          congr 2
          have := rx_put (y' := y2) hx1 7 [i64 (y.x.done + 1)] rfl (by decide) (by rw [hy2]; rfl)
          rw [List.set_set] at this
          exact this
        have key4 : RefAt s4 (({ R.setX t.toNat y1 with vars := vs } : RG).setX t.toNat y2) ∧ RFr s3 { R.setX t.toNat y1 with vars := vs } s4 (({ R.setX t.toNat y1 with vars := vs } : RG).setX t.toNat y2) := by rw [hs4]; exact key4
        obtain ⟨hR4, hF4⟩ := key4
        have hx2 : (R.xs.set t.toNat y2)[t.toNat]? = some y2 := List.getElem?_set_self (lt_of_get hy)
        have d4 := rx_all hx2
        have f4 : inS s4 R.id = True ∧ isObj s4 R.id = True ∧ objAt s4 R.id = [i64 R.clock, .arr R.vid R.vver vs.length, .slc R.tid 8 0 8 8] := cells_facts hR4.cells
        have g4 : inS s4 R.tid = True ∧ isObj s4 R.tid = True ∧ objAt s4 R.tid = (R.xs.set t.toNat y2).flatMap RX.cells := by
          have := cells_facts hR4.txs
          rw [show (({ R.setX t.toNat y1 with vars := vs } : RG).setX t.toNat y2).xs = R.xs.set t.toNat y2 from hxx] at this
          exact this
        have ey2 : y2.x.done = y.x.done + 1 := by rw [hy2]
        rw [ey2] at d4
        refine acalls_conv ?_
        refine acalls_go (M := []) Try.func35 rfl Try.results35 Try.ntmps35 ?_
        simp only [go_sem, reduceCtorEq, Nat.reduceAdd, Nat.reduceMul, Nat.reduceLeDiff, Nat.reduceLT, Int.reduceLE, Int.reduceLT, Int.reduceEq, Nat.reduceBEq, Nat.reduceEqDiff]
        refine hh _ ?_
        simp only [go_sem, reduceCtorEq, Nat.reduceAdd, Nat.reduceMul, Nat.reduceLeDiff, Nat.reduceLT, Int.reduceLE, Int.reduceLT, Int.reduceEq, Nat.reduceBEq, Nat.reduceEqDiff, f.1, f.2.1, f.2.2, RG.cells, g.1, g.2.1, g.2.2, d.1, d.2.1, d.2.2.1, d.2.2.2.1, d.2.2.2.2.1, d.2.2.2.2.2.1, d.2.2.2.2.2.2.1, d.2.2.2.2.2.2.2, ho.1.1, c3, e1, hse1, f1.1, f1.2.1, f1.2.2, g1.1, g1.2.1, g1.2.2, v1.1, v1.2.1, v1.2.2.1, v1.2.2.2, d1.1, d1.2.1, d1.2.2.1, d1.2.2.2.1, d1.2.2.2.2.1, d1.2.2.2.2.2.1, d1.2.2.2.2.2.2.1, d1.2.2.2.2.2.2.2]
        refine ⟨by rw [rx_len hR]; omega, hsort _ ?_⟩
        simp only [go_sem, reduceCtorEq, Nat.reduceAdd, Nat.reduceMul, Nat.reduceLeDiff, Nat.reduceLT, Int.reduceLE, Int.reduceLT, Int.reduceEq, Nat.reduceBEq, Nat.reduceEqDiff, f.1, f.2.1, f.2.2, RG.cells, g.1, g.2.1, g.2.2, d.1, d.2.1, d.2.2.1, d.2.2.2.1, d.2.2.2.2.1, d.2.2.2.2.2.1, d.2.2.2.2.2.2.1, d.2.2.2.2.2.2.2, hse1, ho.1.1, c3, e1, f1.1, f1.2.1, f1.2.2, g1.1, g1.2.1, g1.2.2, v1.1, v1.2.1, v1.2.2.1, v1.2.2.2, d1.1, d1.2.1, d1.2.2.1, d1.2.2.2.1, d1.2.2.2.2.1, d1.2.2.2.2.2.1, d1.2.2.2.2.2.2.1, d1.2.2.2.2.2.2.2, e2, q0, q1, hko, pwV, hse2, b2.1, b2.2.1, b2.2.2]
        refine awp_drawT [] [0, 0, 0, 0, 0, 0, 0, 0, 0, 0, 0, 0, 0, 0, 0, 0, 0, 0, 1] (fun _ => True) Try.mixed rfl trivial ?_
        simp only [go_sem, reduceCtorEq, Nat.reduceAdd, Nat.reduceMul, Nat.reduceLeDiff, Nat.reduceLT, Int.reduceLE, Int.reduceLT, Int.reduceEq, Nat.reduceBEq, Nat.reduceEqDiff, drawU_n, drawU_0, drawU_1, drawU_2, drawU_3, isStore_s, f2.1, f2.2.1, f2.2.2, g2.1, g2.2.1, g2.2.2, v2.1, v2.2.1, v2.2.2.1, v2.2.2.2, d1.1, d1.2.1, d1.2.2.1, d1.2.2.2.1, d1.2.2.2.2.1, d1.2.2.2.2.2.1, d1.2.2.2.2.2.2.1, d1.2.2.2.2.2.2.2, b2.1, b2.2.1, b2.2.2, ho.1.1, c3, hpm.1, hpm.2]
        refine ⟨.agg [i64 p.v, i64 y.x.stamp, i64 (-1)], ?_, ?_⟩
        · simp only [go_sem, reduceCtorEq, Nat.reduceAdd, Nat.reduceMul, Nat.reduceLeDiff, Nat.reduceLT, Int.reduceLE, Int.reduceLT, Int.reduceEq, Nat.reduceBEq, Nat.reduceEqDiff]
          exact ⟨⟨[], by simp⟩, by simp only [go_sem, reduceCtorEq, Nat.reduceAdd, Nat.reduceMul, Nat.reduceLeDiff, Nat.reduceLT, Int.reduceLE, Int.reduceLT, Int.reduceEq, Nat.reduceBEq, Nat.reduceEqDiff], .inl rfl⟩
        simp only [go_sem, reduceCtorEq, Nat.reduceAdd, Nat.reduceMul, Nat.reduceLeDiff, Nat.reduceLT, Int.reduceLE, Int.reduceLT, Int.reduceEq, Nat.reduceBEq, Nat.reduceEqDiff, hse3, f3.1, f3.2.1, f3.2.2, g3.1, g3.2.1, g3.2.2, d1.1, d1.2.1, d1.2.2.1, d1.2.2.2.1, d1.2.2.2.2.1, d1.2.2.2.2.2.1, d1.2.2.2.2.2.2.1, d1.2.2.2.2.2.2.2, ho.1.1, c3, hwd, hse4, f4.1, f4.2.1, f4.2.2, g4.1, g4.2.1, g4.2.2, d4.1, d4.2.1, d4.2.2.1, d4.2.2.2.1, d4.2.2.2.2.1, d4.2.2.2.2.2.1, d4.2.2.2.2.2.2.1, d4.2.2.2.2.2.2.2]
        refine ⟨by rw [vars_len]; omega, by rw [flat_len rx_z, List.length_set, hR.len]; omega, fun c => ?_, fun c => ⟨by rw [flat_len rx_z, List.length_set, hR.len]; omega, ?_⟩⟩
        · rw [if_pos (by simpa using c)] at h
          exact ⟨_, Conv.refl _, h _ _ hR4 (((hF1.trans hF2).trans hF3).trans hF4) (by simp only [RG.abs, RG.setX, List.set_set, List.map_set, hy2, hy1, hvs]; rfl)⟩
        · rw [if_neg (by simpa using c)] at h
          obtain ⟨s5, R5, k1, k2, k3, k4⟩ := ref_fresh hR4 (t := t.toNat) (y := y2) (by rw [show (({ R.setX t.toNat y1 with vars := vs } : RG).setX t.toNat y2).xs = R.xs.set t.toNat y2 from hxx]; exact hx2) .none rfl rfl
          rw [show (({ R.setX t.toNat y1 with vars := vs } : RG).setX t.toNat y2).xs = R.xs.set t.toNat y2 from hxx] at k1
          exact ⟨s5, k1, h _ _ k2 ((((hF1.trans hF2).trans hF3).trans hF4).trans k3) (by rw [k4]; simp only [RG.abs, RG.setX, List.set_set, List.map_set, hvs]; rfl)⟩
      · rw [if_neg e2, show R.abs.vars = R.vars from rfl] at h
        refine acalls_conv ?_
        refine acalls_go (M := []) Try.func35 rfl Try.results35 Try.ntmps35 ?_
        simp only [go_sem, reduceCtorEq, Nat.reduceAdd, Nat.reduceMul, Nat.reduceLeDiff, Nat.reduceLT, Int.reduceLE, Int.reduceLT, Int.reduceEq, Nat.reduceBEq, Nat.reduceEqDiff]
        refine hh _ ?_
        simp only [go_sem, reduceCtorEq, Nat.reduceAdd, Nat.reduceMul, Nat.reduceLeDiff, Nat.reduceLT, Int.reduceLE, Int.reduceLT, Int.reduceEq, Nat.reduceBEq, Nat.reduceEqDiff, f.1, f.2.1, f.2.2, RG.cells, g.1, g.2.1, g.2.2, d.1, d.2.1, d.2.2.1, d.2.2.2.1, d.2.2.2.2.1, d.2.2.2.2.2.1, d.2.2.2.2.2.2.1, d.2.2.2.2.2.2.2, ho.1.1, c3, e1, hse1, f1.1, f1.2.1, f1.2.2, g1.1, g1.2.1, g1.2.2, v1.1, v1.2.1, v1.2.2.1, v1.2.2.2, d1.1, d1.2.1, d1.2.2.1, d1.2.2.2.1, d1.2.2.2.2.1, d1.2.2.2.2.2.1, d1.2.2.2.2.2.2.1, d1.2.2.2.2.2.2.2]
        refine ⟨by rw [rx_len hR]; omega, hsort _ ?_⟩
        simp only [go_sem, reduceCtorEq, Nat.reduceAdd, Nat.reduceMul, Nat.reduceLeDiff, Nat.reduceLT, Int.reduceLE, Int.reduceLT, Int.reduceEq, Nat.reduceBEq, Nat.reduceEqDiff, f.1, f.2.1, f.2.2, RG.cells, g.1, g.2.1, g.2.2, d.1, d.2.1, d.2.2.1, d.2.2.2.1, d.2.2.2.2.1, d.2.2.2.2.2.1, d.2.2.2.2.2.2.1, d.2.2.2.2.2.2.2, hse1, ho.1.1, c3, e1, f1.1, f1.2.1, f1.2.2, g1.1, g1.2.1, g1.2.2, v1.1, v1.2.1, v1.2.2.1, v1.2.2.2, d1.1, d1.2.1, d1.2.2.1, d1.2.2.2.1, d1.2.2.2.2.1, d1.2.2.2.2.2.1, d1.2.2.2.2.2.2.1, d1.2.2.2.2.2.2.2, e2]
        refine awp_rounds [] (fun m e s => ∃ (k : Nat), k + m = l.length ∧ lockRF t R.vars l = lockRF t R.vars (l.drop k) ∧ e = [.ptr R.id 0, i64 t, .any, .any, .any, .any, .any, .slice .imm 3 (l.map pwV), .any, i64 k, .any, .any, .any, .any, .any, .any, .any, .any, .any, .any, .any, .any, .any, .any, .any, .any, .any, .any, .any, .any, .any, .any, .any, .any, .any, .any, .any, .any, .any, .any, .any, .any, .any, .any, .any, .any, .any, .any, .any, .any, .any, .any, .any, .any, .any, .any, .any, .any, .any, .any, .any, .any, .any, .any, .any, .any, .any, .any, .any, .any, .any, .any, .any, .any, .any, .any, .any, .any, .any, .any, .any, .any, .any, .any, .any, .any, .any, .any, .any, .any, .any, .any, .any, .any, .any, .any, .any, .any, .any, .any, .any, .any, .any, .any, .any, .any, .any, .any, .any, .any, .any, .any, .any, .any, .any, .any, .any, .any, .any, .any, .any, .any, .any, .any, .any, .any, .any, .any, .any, .any, .any, .any, .any, .any, .any, .any, .any, .any, .any, .any, .any, .any, .any, .any, .any, .any, .any, .any, .any, .any, .any, .any, .any, .any, .any, .any, .any, .any, .any, .any, .any, .any, .any, .any, .any, .any, .any, .any, .any, .any, .any, .any, .any, .any, .any, .any, .any, .any, .any, .any, .any, .any, .any] ∧ s = s1) (n := l.length) ?_ ⟨0, by omega, rfl, rfl, rfl⟩ ?_
        · repeat (first | exact leEnv_nil | refine leEnv_any _ ?_ | refine leEnv_same _ ?_ | refine leEnv_norm _ ?_)
        rintro m e s ⟨k, hkm, hlk, rfl, rfl⟩
        by_cases hlt : k < l.length
        · have c1 : (k : Int) < (l.length : Int) := by omega
          have c0 : (0 : Int) ≤ (k : Int) := by omega
          have hw := wrapS k (by omega)
          have hko : (l.map pwV).getD k .any = pwV (l.getD k default) := by simp [List.getD_eq_getElem?_getD, hlt]
          have hd : l.drop k = l.getD k default :: l.drop (k + 1) := by
            rw [List.drop_eq_getElem_cons hlt]; simp [List.getD_eq_getElem?_getD, hlt]
          have hpm := hmem (l.getD k default) (by simp [List.getD_eq_getElem?_getD, hlt])
          obtain ⟨p, hpd⟩ : ∃ p, p = l.getD k default := ⟨_, rfl⟩
          rw [← hpd] at hko hd hpm
          rw [hd, lockRF] at hlk
          have hv := vars_drop2 (l := R.vars) (n := p.n.toNat) (by omega)
          obtain ⟨z, hz⟩ : ∃ z, z = R.vars.getD p.n.toNat default := ⟨_, rfl⟩
          rw [← hz] at hv hlk
          simp only [go_sem, reduceCtorEq, Nat.reduceAdd, Nat.reduceMul, Nat.reduceLeDiff, Nat.reduceLT, Int.reduceLE, Int.reduceLT, Int.reduceEq, Nat.reduceBEq, Nat.reduceEqDiff, c1, c0, Int.toNat_natCast, hko, pwV, f1.1, f1.2.1, f1.2.2, g1.1, g1.2.1, g1.2.2, v1.1, v1.2.1, v1.2.2.1, v1.2.2.2, hpm.1, hpm.2, hv, hw]
          refine ⟨fun c => ?_, fun c => ?_⟩
          · rw [if_pos (by simpa using c)] at hlk
            refine ⟨m - 1, _, by omega, ?_, k + 1, by omega, hlk, rfl⟩
            repeat (first | exact leEnv_nil | refine leEnv_any _ ?_ | refine leEnv_same _ ?_ | refine leEnv_norm _ ?_)
          · rw [if_neg (by simpa using c)] at hlk
            refine ⟨fun c => ?_, fun c => ⟨by rw [vars_len]; omega, ?_⟩⟩
            · rw [if_pos (by simpa using c)] at hlk
              rw [hlk] at h
              exact ⟨_, Conv.refl _, h _ _ hR1 hF1 (by rw [rabs_put, hy1]; rfl)⟩
            · rw [if_neg (by simpa using c)] at hlk
              rw [hlk] at h
              have hnl : p.n.toNat < R.vars.length := by omega
              have e := vars_put2 hnl t
              rw [show SV.sc (Value.int IntKind.i64 t) = i64 t from rfl, e, ← hz]
              have key := ref_core (s := s.set R.vid (.arr R.vver 3 ((R.vars.set p.n.toNat { z with lock := t }).flatMap tvSV))) (R' := { R.setX t.toNat y1 with vars := R.vars.set p.n.toNat { z with lock := t } }) hR1 rfl rfl rfl rfl
                ((List.getElem?_set_ne hR.nidv.symm).trans (hR1.cells.trans (by simp [RG.cells, RG.setX]))) (List.getElem?_set_self (lt_of_get hR1.vars)) (by simpa using hR.many) (by simp) (fun j _ q _ => List.getElem?_set_ne (Ne.symm q))
              exact ⟨_, Conv.refl _, h _ _ key.1 (hF1.trans key.2) (by simp only [RG.abs, RG.setX, List.map_set, hy1]; rfl)⟩
        · obtain rfl : k = l.length := by omega
          rw [List.drop_length] at hlk
          rw [hlk] at h
          have hre := hF.reads _ _ (hF.at hy)
          have hvl : ∀ K : SV → St → Prop, K (i64 (validR t y.x.start R.vars y.x.reads)) s → ACalls Try.prog 68 [.ptr R.id 0, i64 t] K s := by
            have e1 : y1.x.start = y.x.start := by rw [hy1]; rfl
            have e2 : y1.x.reads = y.x.reads := by rw [hy1]; rfl
            have := rvalid_c hR1 t (y := y1) hx1 ho.1 (by rw [e2]; exact hre.1) (by rw [e2]; omega)
            rw [e1, e2] at this
            exact this
          obtain ⟨c0, hc0⟩ : ∃ c0, c0 = validR t y.x.start R.vars y.x.reads := ⟨_, rfl⟩
          rw [← hc0] at hvl h
          have hcl := hF.clk
          have hcl' : 0 ≤ R.clock ∧ R.clock ≤ (b : Int) := hcl
          have hw : IntKind.i64.wrap (R.clock + 1) = R.clock + 1 := by rw [IntWalk.i64_in _ (by omega)]
          -- the clock goes on
          obtain ⟨s6, hs6⟩ : ∃ s6, s6 = s.set R.id (.cells [i64 (R.clock + 1), .arr R.vid R.vver R.vars.length, .slc R.tid 8 0 8 8]) := ⟨_, rfl⟩
          have key6 := ref_core (s := s6) (R' := { R.setX t.toNat y1 with clock := R.clock + 1 }) hR1 rfl rfl rfl rfl
            (by rw [hs6]; exact List.getElem?_set_self (lt_of_get hR1.cells)) (by rw [hs6]; exact (List.getElem?_set_ne hR.nidv).trans hR1.vars) hR.many (by rw [hs6]; simp) (fun j q _ _ => by rw [hs6]; exact List.getElem?_set_ne (Ne.symm q))
          obtain ⟨hR6, hF6⟩ := key6
          have f6 : inS s6 R.id = True ∧ isObj s6 R.id = True ∧ objAt s6 R.id = [i64 (R.clock + 1), .arr R.vid R.vver R.vars.length, .slc R.tid 8 0 8 8] := cells_facts hR6.cells
          have g6 : inS s6 R.tid = True ∧ isObj s6 R.tid = True ∧ objAt s6 R.tid = (R.xs.set t.toNat y1).flatMap RX.cells := cells_facts hR6.txs
          obtain ⟨y2, hy2⟩ : ∃ y2, y2 = ({ y1 with x := { y1.x with stamp := R.clock + 1 } } : RX) := ⟨_, rfl⟩
          have key7 := ref_rec hR6 hx1 (y' := y2) (by rw [hy2]) (by rw [hy2]) (by rw [hy2]) (by rw [hy2]) (by rw [hy2])
          have hxx : (({ R.setX t.toNat y1 with clock := R.clock + 1 } : RG).xs.set t.toNat y2) = R.xs.set t.toNat y2 := by simp [RG.setX, List.set_set]
          rw [hxx] at key7
          have hrp := rx_put (y' := y2) hx1 6 [i64 (R.clock + 1), i64 y.x.done] rfl (by decide) (by rw [hy2, hy1]; rfl)
          rw [List.set_set] at hrp
          simp only [go_sem, reduceCtorEq, Nat.reduceAdd, Nat.reduceMul, Nat.reduceLeDiff, Nat.reduceLT, Int.reduceLE, Int.reduceLT, Int.reduceEq, Nat.reduceBEq, Nat.reduceEqDiff, Int.lt_irrefl]
          refine hvl _ ?_
          simp only [go_sem, reduceCtorEq, Nat.reduceAdd, Nat.reduceMul, Nat.reduceLeDiff, Nat.reduceLT, Int.reduceLE, Int.reduceLT, Int.reduceEq, Nat.reduceBEq, Nat.reduceEqDiff]
          refine ⟨fun c => ?_, fun c => ⟨fun c2 => ?_, fun c2 => ?_⟩⟩
          · rw [if_pos (by simpa using c)] at h
            exact ⟨_, Conv.refl _, h _ _ hR1 hF1 (by rw [rabs_put, hy1]; rfl)⟩
          · have hl0 : l = [] := by simpa using c2
            rw [if_neg (by simpa using c), if_pos hl0] at h
            obtain ⟨s5, R5, k1, k2, k3, k4⟩ := ref_fresh hR1 (t := t.toNat) (y := y1) hx1 .none rfl rfl
            simp only [go_sem, reduceCtorEq, Nat.reduceAdd, Nat.reduceMul, Nat.reduceLeDiff, Nat.reduceLT, Int.reduceLE, Int.reduceLT, Int.reduceEq, Nat.reduceBEq, Nat.reduceEqDiff, f1.1, f1.2.1, f1.2.2, g1.1, g1.2.1, g1.2.2, v1.1, v1.2.1, v1.2.2.1, v1.2.2.2, ho.1.1, c3]
            refine ⟨by rw [flat_len rx_z, List.length_set, hR.len]; omega, s5, k1, h _ _ k2 (hF1.trans k3) (by rw [k4]; simp only [RG.abs, RG.setX, List.map_set, List.set_set]; rfl)⟩
          · have hl0 : ¬ l = [] := by intro e; rw [e] at c2; simp at c2
            rw [if_neg (by simpa using c), if_neg hl0] at h
            have hse6 : s.set R.id (.cells [i64 (R.clock + 1), .arr R.vid R.vver R.vars.length, .slc R.tid 8 0 8 8]) = s6 := hs6.symm
            simp only [go_sem, reduceCtorEq, Nat.reduceAdd, Nat.reduceMul, Nat.reduceLeDiff, Nat.reduceLT, Int.reduceLE, Int.reduceLT, Int.reduceEq, Nat.reduceBEq, Nat.reduceEqDiff, f1.1, f1.2.1, f1.2.2, g1.1, g1.2.1, g1.2.2, v1.1, v1.2.1, v1.2.2.1, v1.2.2.2, ho.1.1, c3, hw, hse6]
            refine awp_drawT [] [0, 0, 0, 0, 0, 0, 0, 0, 0, 0, 0, 1] (fun _ => True) Try.mixed rfl trivial ?_
            simp only [go_sem, reduceCtorEq, Nat.reduceAdd, Nat.reduceMul, Nat.reduceLeDiff, Nat.reduceLT, Int.reduceLE, Int.reduceLT, Int.reduceEq, Nat.reduceBEq, Nat.reduceEqDiff, drawU_n, drawU_0, drawU_1, drawU_2, drawU_3, isStore_s, f6.1, f6.2.1, f6.2.2, g6.1, g6.2.1, g6.2.2, d1.1, d1.2.1, d1.2.2.1, d1.2.2.2.1, d1.2.2.2.2.1, d1.2.2.2.2.2.1, d1.2.2.2.2.2.2.1, d1.2.2.2.2.2.2.2, ho.1.1, c3]
            refine ⟨by rw [flat_len rx_z, List.length_set, hR.len]; omega, _, Conv.refl _, ?_⟩
            refine st_cells hrp ?_
            exact h _ _ key7.1 ((hF1.trans hF6).trans key7.2) (by simp only [RG.abs, RG.setX, List.map_set, List.set_set, hy2, hy1]; rfl)

end Go.Proofs
