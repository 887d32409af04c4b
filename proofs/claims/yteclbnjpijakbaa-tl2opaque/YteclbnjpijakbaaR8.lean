/- The reference: Read. -/
import Derived.Test.YteclbnjpijakbaaM4
set_option linter.unusedSimpArgs false
set_option linter.unusedVariables false
set_option maxRecDepth 8000
namespace Go.Proofs
open Go Go.AL

/-- The write of the youngest part. -/
def topR (n : Int) : List PW → Option PW → Option PW
  | [], b => b
  | p :: r, b => topR n r (if p.n = n ∧ (∀ q, b = some q → q.part < p.part) then some p else b)

def readR (R : RP) (t n : Int) : (Int × Int) × RP := if R.opn t = true ∧ R.is n = true then
    match topR n (R.get t).puts none with
    | some p => ((p.v, 0), R)
    | none => if lookR t (R.get t).start (R.vars.getD n.toNat default) ≠ 0 then ((0, lookR t (R.get t).start (R.vars.getD n.toNat default)), R) else
        (((R.vars.getD n.toNat default).val, 0), if n ∈ (R.get t).reads then R else R.put t { R.get t with reads := (R.get t).reads ++ [n] })
  else ((0, 1), R)

theorem RefAt.app {st : St} {R : RG} (h : RefAt st R) (l : St) : RefAt (st ++ l) R ∧ RFr st R (st ++ l) R :=
  ref_core h rfl rfl rfl rfl (by rw [List.getElem?_append_left (lt_of_get h.cells)]; exact h.cells) (by rw [List.getElem?_append_left (lt_of_get h.vars)]; exact h.vars) h.many (by simp)
    (fun j _ _ hj => List.getElem?_append_left hj)

theorem ref_reads {st : St} {R : RG} (hR : RefAt st R) {t : Nat} {y : RX} (hy : R.xs[t]? = some y) (ver : Nat) (l : List Int) :
    RefAt ((st.set y.rid (.tok ver)).set R.tid (.cells ((R.xs.set t { y with rver := ver, x := { y.x with reads := l } }).flatMap RX.cells))) (R.setX t { y with rver := ver, x := { y.x with reads := l } }) ∧
    RFr st R ((st.set y.rid (.tok ver)).set R.tid (.cells ((R.xs.set t { y with rver := ver, x := { y.x with reads := l } }).flatMap RX.cells))) (R.setX t { y with rver := ver, x := { y.x with reads := l } }) := by
  have r := hR.rne hy
  have p := hR.pne hy
  have hrp := hR.rpne hy hy
  have g : ∀ j, j ≠ R.tid → j ≠ y.rid → ((st.set y.rid (.tok ver)).set R.tid (.cells ((R.xs.set t { y with rver := ver, x := { y.x with reads := l } }).flatMap RX.cells)))[j]? = st[j]? := fun j a b => by
    rw [List.getElem?_set_ne (Ne.symm a), List.getElem?_set_ne (Ne.symm b)]
  refine ref_upd hR hy (y' := { y with rver := ver, x := { y.x with reads := l } }) rfl rfl rfl rfl ?_ ?_ ?_ hR.many (by simp) (fun j _ _ a b _ _ => g j a b) ?_ ?_ (.inl rfl) (.inl rfl)
  · exact (g _ hR.ne r.1.symm).trans hR.cells
  · exact (g _ hR.ntv.symm r.2.1.symm).trans hR.vars
  · exact List.getElem?_set_self (by simpa using lt_of_get hR.txs)
  · exact (List.getElem?_set_ne r.2.2.symm).trans (List.getElem?_set_self (lt_of_get (hR.tok _ _ hy)))
  · exact (g _ p.2.2 hrp.symm).trans (hR.puts _ _ hy)

set_option maxHeartbeats 8000000 in
theorem rread_c {st : St} {R : RG} (hR : RefAt st R) {b : Nat} (hF : FineR b R.abs) (t n : Int) (K : SV → St → Prop)
    (h : ∀ s R', RefAt s R' → RFr st R s R' → R'.abs = (readR R.abs t n).2 → K (.tuple [i64 (readR R.abs t n).1.1, i64 (readR R.abs t n).1.2]) s) : ACalls Try.prog 54 [.ptr R.id 0, i64 t, i64 n] K st := by
  refine acalls_go (M := []) Try.func54 rfl Try.results54 Try.ntmps54 ?_
  have hof := ropen_c hR t
  have his := ris_c hR n
  unfold readR at h
  cases hb : R.abs.opn t with
  | false =>
    rw [hb] at hof
    rw [if_neg (by rw [hb]; simp)] at h
    simp only [go_sem, reduceCtorEq, Nat.reduceAdd, Nat.reduceMul, Nat.reduceLeDiff, Nat.reduceLT, Int.reduceLE, Int.reduceLT, Int.reduceEq, Nat.reduceBEq, Nat.reduceEqDiff]
    refine hof _ ?_
    simp only [go_sem, reduceCtorEq, Nat.reduceAdd, Nat.reduceMul, Nat.reduceLeDiff, Nat.reduceLT, Int.reduceLE, Int.reduceLT, Int.reduceEq, Nat.reduceBEq, Nat.reduceEqDiff]
    refine his _ ?_
    simp only [go_sem, reduceCtorEq, Nat.reduceAdd, Nat.reduceMul, Nat.reduceLeDiff, Nat.reduceLT, Int.reduceLE, Int.reduceLT, Int.reduceEq, Nat.reduceBEq, Nat.reduceEqDiff]
    exact h st R hR (RFr.refl _ _) rfl
  | true =>
    rw [hb] at hof
    cases hi : R.abs.is n with
    | false =>
      rw [hi] at his
      rw [if_neg (by rw [hi]; simp)] at h
      simp only [go_sem, reduceCtorEq, Nat.reduceAdd, Nat.reduceMul, Nat.reduceLeDiff, Nat.reduceLT, Int.reduceLE, Int.reduceLT, Int.reduceEq, Nat.reduceBEq, Nat.reduceEqDiff]
      refine hof _ ?_
      simp only [go_sem, reduceCtorEq, Nat.reduceAdd, Nat.reduceMul, Nat.reduceLeDiff, Nat.reduceLT, Int.reduceLE, Int.reduceLT, Int.reduceEq, Nat.reduceBEq, Nat.reduceEqDiff]
      refine his _ ?_
      simp only [go_sem, reduceCtorEq, Nat.reduceAdd, Nat.reduceMul, Nat.reduceLeDiff, Nat.reduceLT, Int.reduceLE, Int.reduceLT, Int.reduceEq, Nat.reduceBEq, Nat.reduceEqDiff]
      exact h st R hR (RFr.refl _ _) rfl
    | true =>
      rw [hi] at his
      rw [if_pos ⟨hb, hi⟩] at h
      have ho := ropn_get hb
      obtain ⟨y, hy, hg⟩ := hR.at ho.1
      rw [hg] at h
      have hin : 0 ≤ n ∧ n < (R.vars.length : Int) := by
        unfold RP.is at hi
        simp only [Bool.and_eq_true, decide_eq_true_eq] at hi
        exact hi
      have d := rx_all hy
      have c3 : t < ((8 : Nat) : Int) := ho.1.2
      have hpu := hF.puts _ _ (hF.at hy)
      have hre := hF.reads _ _ (hF.at hy)
      have hsm := hF.small
      rw [show R.abs.vars = R.vars from rfl] at h
      simp only [go_sem, reduceCtorEq, Nat.reduceAdd, Nat.reduceMul, Nat.reduceLeDiff, Nat.reduceLT, Int.reduceLE, Int.reduceLT, Int.reduceEq, Nat.reduceBEq, Nat.reduceEqDiff]
      refine hof _ ?_
      simp only [go_sem, reduceCtorEq, Nat.reduceAdd, Nat.reduceMul, Nat.reduceLeDiff, Nat.reduceLT, Int.reduceLE, Int.reduceLT, Int.reduceEq, Nat.reduceBEq, Nat.reduceEqDiff]
      refine his _ ?_
      simp only [go_sem, reduceCtorEq, Nat.reduceAdd, Nat.reduceMul, Nat.reduceLeDiff, Nat.reduceLT, Int.reduceLE, Int.reduceLT, Int.reduceEq, Nat.reduceBEq, Nat.reduceEqDiff]
      refine awp_rounds [] (fun m e s => ∃ (k : Nat) (b : Option Nat), k + m = y.x.puts.length ∧ (∀ j, b = some j → j < y.x.puts.length) ∧ topR n y.x.puts none = topR n (y.x.puts.drop k) (b.map fun j => y.x.puts.getD j default) ∧
        RefAt s R ∧ RFr st R s R ∧ e = [.ptr R.id 0, i64 t, i64 n, .any, .any, .any, .any, .any, .any, .any, i64 (bI b), i64 k, .any, .any, .any, .any, .any, .any, .any, .any, .any, .any, .any, .any, .any, .any, .any, .any, .any, .any, .any, .any, .any, .any, .any, .any, .any, .any, .any, .any, .any, .any, .any, .any, .any, .any, .any, .any, .any, .any, .any, .any, .any, .any, .any, .any, .any, .any, .any, .any, .any, .any, .any, .any, .any, .any, .any, .any, .any, .any, .any, .any, .any, .any, .any, .any, .any, .any, .any, .any, .any, .any, .any, .any, .any, .any, .any, .any, .any, .any, .any, .any, .any, .any, .any, .any, .any, .any, .any, .any, .any, .any, .any, .any, .any, .any, .any, .any, .any, .any, .any, .any, .any, .any, .any, .any, .any, .any, .any, .any, .any, .any, .any, .any, .any, .any, .any, .any, .any, .any, .any, .any, .any, .any, .any, .any, .any, .any, .any, .any, .any, .any, .any, .any, .any, .any, .any, .any, .any, .any, .any, .any, .any, .any, .any, .any, .any, .any]) (n := y.x.puts.length) ?_ ⟨0, none, by omega, fun j hj => (by cases hj), rfl, hR, RFr.refl _ _, rfl⟩ ?_
      · repeat (first | exact leEnv_nil | refine leEnv_any _ ?_ | refine leEnv_same _ ?_ | refine leEnv_norm _ ?_)
      rintro m e s ⟨k, b, hkm, hbj, htop, hRs, hFs, rfl⟩
      have f := cells_facts hRs.cells
      have g := cells_facts hRs.txs
      have v := arr_facts (hRs.puts _ _ hy)
      by_cases hlt : k < y.x.puts.length
      · have c1 : (k : Int) < (y.x.puts.length : Int) := by omega
        have c0 : (0 : Int) ≤ (k : Int) := by omega
        have hw := wrapS k (by omega)
        have hk : y.x.puts[k]? = some (y.x.puts.getD k default) := by simp [List.getD_eq_getElem?_getD, hlt]
        have hd : y.x.puts.drop k = y.x.puts.getD k default :: y.x.puts.drop (k + 1) := by
          rw [List.drop_eq_getElem_cons hlt]; simp [List.getD_eq_getElem?_getD, hlt]
        obtain ⟨p, hpd⟩ : ∃ p, p = y.x.puts.getD k default := ⟨_, rfl⟩
        rw [← hpd] at hk hd
        have q := pw_all hk
        rw [hd, topR] at htop
        have hA := hRs.app [Ob.cells (pwSV p)]
        have hF2 := hFs.trans hA.2
        simp only [go_sem, reduceCtorEq, Nat.reduceAdd, Nat.reduceMul, Nat.reduceLeDiff, Nat.reduceLT, Int.reduceLE, Int.reduceLT, Int.reduceEq, Nat.reduceBEq, Nat.reduceEqDiff, f.1, f.2.1, f.2.2, RG.cells, g.1, g.2.1, g.2.2, d.1, d.2.1, d.2.2.1, d.2.2.2.1, d.2.2.2.2.1, d.2.2.2.2.2.1, d.2.2.2.2.2.2.1, d.2.2.2.2.2.2.2, v.1, v.2.1, v.2.2.1, v.2.2.2, ho.1.1, c3, c1, c0, q.1, q.2.1, q.2.2]
        refine awp_draw [] Try.mixed rfl ?_
        by_cases e1 : p.n = n
        · have b1 : (p.n == n) = true := by simp [e1]
          cases b with
          | none =>
            rw [if_pos ⟨e1, fun q hq => by cases hq⟩] at htop
            simp only [go_sem, reduceCtorEq, Nat.reduceAdd, Nat.reduceMul, Nat.reduceLeDiff, Nat.reduceLT, Int.reduceLE, Int.reduceLT, Int.reduceEq, Nat.reduceBEq, Nat.reduceEqDiff, f.1, f.2.1, f.2.2, RG.cells, g.1, g.2.1, g.2.2, d.1, d.2.1, d.2.2.1, d.2.2.2.1, d.2.2.2.2.1, d.2.2.2.2.2.1, d.2.2.2.2.2.2.1, d.2.2.2.2.2.2.2, v.1, v.2.1, v.2.2.1, v.2.2.2, ho.1.1, c3, c1, c0, q.1, q.2.1, q.2.2, b1, bN, hw]
            refine ⟨m - 1, _, by omega, ?_, k + 1, some k, by omega, fun j hj => (by cases hj; exact hlt), (by rw [htop, hpd]; rfl), hA.1, hF2, rfl⟩
            repeat (first | exact leEnv_nil | refine leEnv_any _ ?_ | refine leEnv_same _ ?_ | refine leEnv_norm _ ?_)
          | some j =>
            have hj := hbj j rfl
            have hj0 : (0 : Int) ≤ (j : Int) := by omega
            have hj1 : (j : Int) < (y.x.puts.length : Int) := by omega
            have hj2 : ((j : Int) < 0) = False := eq_false (by omega)
            have hjk : y.x.puts[j]? = some (y.x.puts.getD j default) := by simp [List.getD_eq_getElem?_getD, hj]
            obtain ⟨r, hrd⟩ : ∃ r, r = y.x.puts.getD j default := ⟨_, rfl⟩
            rw [← hrd] at hjk
            have d2 := pw_all hjk
            rw [Option.map_some, ← hrd] at htop
            by_cases e3 : r.part < p.part
            · rw [if_pos ⟨e1, fun q hq => by cases hq; exact e3⟩] at htop
              simp only [go_sem, reduceCtorEq, Nat.reduceAdd, Nat.reduceMul, Nat.reduceLeDiff, Nat.reduceLT, Int.reduceLE, Int.reduceLT, Int.reduceEq, Nat.reduceBEq, Nat.reduceEqDiff, f.1, f.2.1, f.2.2, RG.cells, g.1, g.2.1, g.2.2, d.1, d.2.1, d.2.2.1, d.2.2.2.1, d.2.2.2.2.1, d.2.2.2.2.2.1, d.2.2.2.2.2.2.1, d.2.2.2.2.2.2.2, v.1, v.2.1, v.2.2.1, v.2.2.2, ho.1.1, c3, c1, c0, q.1, q.2.1, q.2.2, b1, bS, hw, hj0, hj1, hj2, Int.toNat_natCast, d2.1, d2.2.1, d2.2.2, e3]
              refine ⟨m - 1, _, by omega, ?_, k + 1, some k, by omega, fun j hj => (by cases hj; exact hlt), (by rw [htop, hpd]; rfl), hA.1, hF2, rfl⟩
              repeat (first | exact leEnv_nil | refine leEnv_any _ ?_ | refine leEnv_same _ ?_ | refine leEnv_norm _ ?_)
            · rw [if_neg (fun c => e3 (c.2 r rfl))] at htop
              simp only [go_sem, reduceCtorEq, Nat.reduceAdd, Nat.reduceMul, Nat.reduceLeDiff, Nat.reduceLT, Int.reduceLE, Int.reduceLT, Int.reduceEq, Nat.reduceBEq, Nat.reduceEqDiff, f.1, f.2.1, f.2.2, RG.cells, g.1, g.2.1, g.2.2, d.1, d.2.1, d.2.2.1, d.2.2.2.1, d.2.2.2.2.1, d.2.2.2.2.2.1, d.2.2.2.2.2.2.1, d.2.2.2.2.2.2.2, v.1, v.2.1, v.2.2.1, v.2.2.2, ho.1.1, c3, c1, c0, q.1, q.2.1, q.2.2, b1, bS, hw, hj0, hj1, hj2, Int.toNat_natCast, d2.1, d2.2.1, d2.2.2, e3]
              refine ⟨m - 1, _, by omega, ?_, k + 1, some j, by omega, hbj, (by rw [htop, hrd]; rfl), hA.1, hF2, rfl⟩
              repeat (first | exact leEnv_nil | refine leEnv_any _ ?_ | refine leEnv_same _ ?_ | refine leEnv_norm _ ?_)
        · have b1 : (p.n == n) = false := by simp [e1]
          rw [if_neg (fun c => e1 c.1)] at htop
          simp only [go_sem, reduceCtorEq, Nat.reduceAdd, Nat.reduceMul, Nat.reduceLeDiff, Nat.reduceLT, Int.reduceLE, Int.reduceLT, Int.reduceEq, Nat.reduceBEq, Nat.reduceEqDiff, f.1, f.2.1, f.2.2, RG.cells, g.1, g.2.1, g.2.2, d.1, d.2.1, d.2.2.1, d.2.2.2.1, d.2.2.2.2.1, d.2.2.2.2.2.1, d.2.2.2.2.2.2.1, d.2.2.2.2.2.2.2, v.1, v.2.1, v.2.2.1, v.2.2.2, ho.1.1, c3, c1, c0, q.1, q.2.1, q.2.2, b1, hw]
          refine ⟨m - 1, _, by omega, ?_, k + 1, b, by omega, hbj, htop, hA.1, hF2, rfl⟩
          repeat (first | exact leEnv_nil | refine leEnv_any _ ?_ | refine leEnv_same _ ?_ | refine leEnv_norm _ ?_)
      · obtain rfl : k = y.x.puts.length := by omega
        rw [List.drop_length] at htop
        have htop : topR n y.x.puts none = b.map fun j => y.x.puts.getD j default := htop
        cases b with
        | some j =>
          have hj := hbj j rfl
          have hj0 : (0 : Int) ≤ (j : Int) := by omega
          have hj1 : (j : Int) < (y.x.puts.length : Int) := by omega
          have hjk : y.x.puts[j]? = some (y.x.puts.getD j default) := by simp [List.getD_eq_getElem?_getD, hj]
          obtain ⟨r, hrd⟩ : ∃ r, r = y.x.puts.getD j default := ⟨_, rfl⟩
          rw [← hrd] at hjk
          have d2 := pw_all hjk
          have htop : topR n y.x.puts none = some r := by rw [htop, hrd]; rfl
          simp only [htop] at h
          simp only [go_sem, reduceCtorEq, Nat.reduceAdd, Nat.reduceMul, Nat.reduceLeDiff, Nat.reduceLT, Int.reduceLE, Int.reduceLT, Int.reduceEq, Nat.reduceBEq, Nat.reduceEqDiff, f.1, f.2.1, f.2.2, RG.cells, g.1, g.2.1, g.2.2, d.1, d.2.1, d.2.2.1, d.2.2.2.1, d.2.2.2.2.1, d.2.2.2.2.2.1, d.2.2.2.2.2.2.1, d.2.2.2.2.2.2.2, v.1, v.2.1, v.2.2.1, v.2.2.2, ho.1.1, c3, Int.lt_irrefl, bS, hj0, hj1, Int.toNat_natCast, d2.1, d2.2.1, d2.2.2]
          exact h _ _ hRs hFs rfl
        | none =>
          have htop : topR n y.x.puts none = none := htop
          have hnn : ((0 : Int) ≤ -1) = False := eq_false (by decide)
          have hlk := rlook_c hRs t n hy ho.1 hin
          simp only [htop] at h
          obtain ⟨c, hc⟩ : ∃ c, c = lookR t y.x.start (R.vars.getD n.toNat default) := ⟨_, rfl⟩
          rw [← hc] at h hlk
          obtain ⟨z, hz⟩ : ∃ z, z = R.vars.getD n.toNat default := ⟨_, rfl⟩
          have hv := vars_drop (l := R.vars) (n := n.toNat) (by omega)
          have w := arr_facts hRs.vars
          rw [← hz] at h hv
          by_cases e0 : c = 0
          · have b0 : (c != 0) = false := by simp [e0]
            rw [if_neg (by simpa using e0)] at h
            simp only [go_sem, reduceCtorEq, Nat.reduceAdd, Nat.reduceMul, Nat.reduceLeDiff, Nat.reduceLT, Int.reduceLE, Int.reduceLT, Int.reduceEq, Nat.reduceBEq, Nat.reduceEqDiff, f.1, f.2.1, f.2.2, RG.cells, g.1, g.2.1, g.2.2, d.1, d.2.1, d.2.2.1, d.2.2.2.1, d.2.2.2.2.1, d.2.2.2.2.2.1, d.2.2.2.2.2.2.1, d.2.2.2.2.2.2.2, v.1, v.2.1, v.2.2.1, v.2.2.2, ho.1.1, c3, Int.lt_irrefl, bN, hnn]
            refine hlk _ ?_
            simp only [go_sem, reduceCtorEq, Nat.reduceAdd, Nat.reduceMul, Nat.reduceLeDiff, Nat.reduceLT, Int.reduceLE, Int.reduceLT, Int.reduceEq, Nat.reduceBEq, Nat.reduceEqDiff, b0]
            refine awp_rounds [] (fun m e s2 => ∃ (k : Nat), k + m = y.x.reads.length ∧ (n ∉ y.x.reads.take k) ∧ e = [.ptr R.id 0, i64 t, i64 n, .any, .any, .any, .any, .any, .any, .any, .any, .any, .any, .any, i64 k, .any, .any, .any, .any, .any, .any, .any, .any, .any, .any, .any, .any, .any, .any, .any, .any, .any, .any, .any, .any, .any, .any, .any, .any, .any, .any, .any, .any, .any, .any, .any, .any, .any, .any, .any, .any, .any, .any, .any, .any, .any, .any, .any, .any, .any, .any, .any, .any, .any, .any, .any, .any, .any, .any, .any, .any, .any, .any, .any, .any, .any, .any, .any, .any, .any, .any, .any, .any, .any, .any, .any, .any, .any, .any, .any, .any, .any, .any, .any, .any, .any, .any, .any, .any, .any, .any, .any, .any, .any, .any, .any, .any, .any, .any, .any, .any, .any, .any, .any, .any, .any, .any, .any, .any, .any, .any, .any, .any, .any, .any, .any, .any, .any, .any, .any, .any, .any, .any, .any, .any, .any, .any, .any, .any, .any, .any, .any, .any, .any, .any, .any, .any, .any, .any, .any, .any, .any, .any, .any, .any, .any, .any, .any] ∧ s2 = s) (n := y.x.reads.length) ?_ ⟨0, by omega, by simp, rfl, rfl⟩ ?_
            · repeat (first | exact leEnv_nil | refine leEnv_any _ ?_ | refine leEnv_same _ ?_ | refine leEnv_norm _ ?_)
            rintro m2 e s2 ⟨k, hkm, hno, rfl, rfl⟩
            by_cases hlt : k < y.x.reads.length
            · have c1 : (k : Int) < (y.x.reads.length : Int) := by omega
              have c0 : (0 : Int) ≤ (k : Int) := by omega
              have hw := wrapS k (by omega)
              by_cases e1 : y.x.reads.getD k 0 = n
              · have b1 : (y.x.reads.getD k 0 == n) = true := by rw [e1]; simp
                have hmem : n ∈ y.x.reads := by rw [← e1]; simp [List.getD_eq_getElem?_getD, hlt]
                rw [if_pos hmem] at h
                simp only [go_sem, reduceCtorEq, Nat.reduceAdd, Nat.reduceMul, Nat.reduceLeDiff, Nat.reduceLT, Int.reduceLE, Int.reduceLT, Int.reduceEq, Nat.reduceBEq, Nat.reduceEqDiff, f.1, f.2.1, f.2.2, RG.cells, g.1, g.2.1, g.2.2, d.1, d.2.1, d.2.2.1, d.2.2.2.1, d.2.2.2.2.1, d.2.2.2.2.2.1, d.2.2.2.2.2.2.1, d.2.2.2.2.2.2.2, w.1, w.2.1, w.2.2.1, w.2.2.2, ho.1.1, c3, c1, c0, getD_i64 hlt, Int.toNat_natCast, b1, hin.1, hin.2, hv]
                exact h _ _ hRs hFs rfl
              · have b1 : (y.x.reads.getD k 0 == n) = false := by simpa using e1
                have hno2 : n ∉ y.x.reads.take (k + 1) := by
                  rw [List.take_succ_eq_append_getElem hlt]
                  intro hm
                  rcases List.mem_append.1 hm with h1 | h1
                  · exact hno h1
                  · simp only [List.mem_singleton] at h1
                    exact e1 (by simp [List.getD_eq_getElem?_getD, hlt, h1])
                simp only [go_sem, reduceCtorEq, Nat.reduceAdd, Nat.reduceMul, Nat.reduceLeDiff, Nat.reduceLT, Int.reduceLE, Int.reduceLT, Int.reduceEq, Nat.reduceBEq, Nat.reduceEqDiff, f.1, f.2.1, f.2.2, RG.cells, g.1, g.2.1, g.2.2, d.1, d.2.1, d.2.2.1, d.2.2.2.1, d.2.2.2.2.1, d.2.2.2.2.2.1, d.2.2.2.2.2.2.1, d.2.2.2.2.2.2.2, ho.1.1, c3, c1, c0, getD_i64 hlt, Int.toNat_natCast, b1, hw]
                refine ⟨m2 - 1, _, by omega, ?_, k + 1, by omega, hno2, rfl⟩
                repeat (first | exact leEnv_nil | refine leEnv_any _ ?_ | refine leEnv_same _ ?_ | refine leEnv_norm _ ?_)
            · obtain rfl : k = y.x.reads.length := by omega
              rw [List.take_length] at hno
              rw [if_neg hno] at h
              have hlen := hre.2
              have happ := app_i64s (n := y.x.reads.length + 1) (by omega)
              have tk := tokAt_eq (v' := y.rver) (hRs.tok _ _ hy)
              have key := ref_reads hRs hy (y.rver + 1) (y.x.reads ++ [n])
              have hne := (hR.rne hy).2.2
              have hne' := hne.symm
              have k3 : (s2.set y.rid (.tok (y.rver + 1)))[R.tid]? = some (.cells (R.xs.flatMap RX.cells)) := (List.getElem?_set_ne hne).trans hRs.txs
              have k1 : (s2.set y.rid (.tok (y.rver + 1)))[R.id]? = some (.cells R.cells) := (List.getElem?_set_ne (hR.rne hy).1).trans hRs.cells
              have g3 := cells_facts k3
              have f4 := cells_facts key.1.cells
              have w4 := arr_facts key.1.vars
              simp only [go_sem, reduceCtorEq, Nat.reduceAdd, Nat.reduceMul, Nat.reduceLeDiff, Nat.reduceLT, Int.reduceLE, Int.reduceLT, Int.reduceEq, Nat.reduceBEq, Nat.reduceEqDiff, f.1, f.2.1, f.2.2, RG.cells, g.1, g.2.1, g.2.2, d.1, d.2.1, d.2.2.1, d.2.2.2.1, d.2.2.2.2.1, d.2.2.2.2.2.1, d.2.2.2.2.2.2.1, d.2.2.2.2.2.2.2, ho.1.1, c3, Int.lt_irrefl]
              refine awp_drawT [] [2, 2, 2, 2, 2, 0, 0, 0, 0, 0, 0, 0, 0, 0, 0, 3, 2, 2, 1] (fun s => s[R.id]? = some (.cells R.cells)) Try.mixed rfl hRs.cells ?_
              simp only [go_sem, reduceCtorEq, Nat.reduceAdd, Nat.reduceMul, Nat.reduceLeDiff, Nat.reduceLT, Int.reduceLE, Int.reduceLT, Int.reduceEq, Nat.reduceBEq, Nat.reduceEqDiff, drawU_n, drawU_0, drawU_1, drawU_2, drawU_3, isStore_s, f.1, f.2.1, f.2.2, RG.cells, g.1, g.2.1, g.2.2, d.1, d.2.1, d.2.2.1, d.2.2.2.1, d.2.2.2.2.1, d.2.2.2.2.2.1, d.2.2.2.2.2.2.1, d.2.2.2.2.2.2.2, ho.1.1, c3]
              obtain ⟨s3, hs3⟩ : ∃ s3, s3 = (s2.set y.rid (.tok (y.rver + 1))).set R.tid (.cells ((R.xs.set t.toNat { y with rver := y.rver + 1, x := { y.x with reads := y.x.reads ++ [n] } }).flatMap RX.cells)) := ⟨_, rfl⟩
              have hse : (s2.set y.rid (.tok (y.rver + 1))).set R.tid (.cells ((R.xs.flatMap RX.cells).take (t.toNat * 8 + 2) ++ .slice (.own y.rid (y.rver + 1)) 1 (y.x.reads.map i64 ++ [i64 n]) :: .arr y.pid y.pver y.x.puts.length :: i64 y.x.parts :: .sc (.bool y.x.commits) :: i64 y.x.stamp :: i64 y.x.done :: (R.xs.flatMap RX.cells).drop (t.toNat * 8 + 8))) = s3 := by
                rw [hs3]
                congr 2
                exact rx_put (y' := { y with rver := y.rver + 1, x := { y.x with reads := y.x.reads ++ [n] } }) hy 2 [.slice (.own y.rid (y.rver + 1)) 1 (y.x.reads.map i64 ++ [i64 n]), .arr y.pid y.pver y.x.puts.length, i64 y.x.parts, .sc (.bool y.x.commits), i64 y.x.stamp, i64 y.x.done] rfl (by decide) (by simp [RX.cells])
              rw [← hs3] at key f4 w4
              have f5 : inS s3 R.id = True ∧ isObj s3 R.id = True ∧ objAt s3 R.id = R.cells := f4
              have w5 : inS s3 R.vid = True ∧ arrOk s3 R.vid R.vver = True ∧ arrZ s3 R.vid = 3 ∧ arrC s3 R.vid = R.vars.flatMap tvSV := w4
              refine ⟨fun s hs => ?_, .slice .full 1 [i64 n], ?_, .slice (.own y.rid (y.rver + 1)) 1 (y.x.reads.map i64 ++ [i64 n]), s2.set y.rid (.tok (y.rver + 1)), ?_, ?_⟩
              · have f2 := cells_facts hs
                simp only [go_sem, reduceCtorEq, Nat.reduceAdd, Nat.reduceMul, Nat.reduceLeDiff, Nat.reduceLT, Int.reduceLE, Int.reduceLT, Int.reduceEq, Nat.reduceBEq, Nat.reduceEqDiff, f2.1, f2.2.1, f2.2.2]
              · simp only [go_sem, reduceCtorEq, Nat.reduceAdd, Nat.reduceMul, Nat.reduceLeDiff, Nat.reduceLT, Int.reduceLE, Int.reduceLT, Int.reduceEq, Nat.reduceBEq, Nat.reduceEqDiff]
                exact ⟨⟨[], by simp⟩, ids_full1 _ _, .inl rfl⟩
              · simp only [go_sem, reduceCtorEq, Nat.reduceAdd, Nat.reduceMul, Nat.reduceLeDiff, Nat.reduceLT, Int.reduceLE, Int.reduceLT, Int.reduceEq, Nat.reduceBEq, Nat.reduceEqDiff, tk]
                exact happ
              simp only [go_sem, reduceCtorEq, Nat.reduceAdd, Nat.reduceMul, Nat.reduceLeDiff, Nat.reduceLT, Int.reduceLE, Int.reduceLT, Int.reduceEq, Nat.reduceBEq, Nat.reduceEqDiff, g3.1, g3.2.1, g3.2.2, d.2.2.2.1, hse, f5.1, f5.2.1, f5.2.2, w5.1, w5.2.1, w5.2.2.1, w5.2.2.2, RG.cells, hin.1, hin.2, hv]
              refine ⟨k1, by rw [rx_len hRs]; omega, by rw [hs3]; exact (List.getElem?_set_ne hR.ne.symm).trans k1, ?_⟩
              exact h _ _ key.1 (hFs.trans key.2) (rabs_put R t _)
          · have b0 : (c != 0) = true := by simp [e0]
            rw [if_pos (by simpa using e0)] at h
            simp only [go_sem, reduceCtorEq, Nat.reduceAdd, Nat.reduceMul, Nat.reduceLeDiff, Nat.reduceLT, Int.reduceLE, Int.reduceLT, Int.reduceEq, Nat.reduceBEq, Nat.reduceEqDiff, f.1, f.2.1, f.2.2, RG.cells, g.1, g.2.1, g.2.2, d.1, d.2.1, d.2.2.1, d.2.2.2.1, d.2.2.2.2.1, d.2.2.2.2.2.1, d.2.2.2.2.2.2.1, d.2.2.2.2.2.2.2, v.1, v.2.1, v.2.2.1, v.2.2.2, ho.1.1, c3, Int.lt_irrefl, bN, hnn]
            refine hlk _ ?_
            simp only [go_sem, reduceCtorEq, Nat.reduceAdd, Nat.reduceMul, Nat.reduceLeDiff, Nat.reduceLT, Int.reduceLE, Int.reduceLT, Int.reduceEq, Nat.reduceBEq, Nat.reduceEqDiff, b0]
            exact h _ _ hRs hFs rfl

end Go.Proofs
