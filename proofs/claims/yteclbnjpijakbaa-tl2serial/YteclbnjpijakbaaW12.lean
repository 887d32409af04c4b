/- The engine: Step. -/
import Derived.Test.YteclbnjpijakbaaW11
set_option linter.unusedSimpArgs false
set_option linter.unusedVariables false
set_option maxRecDepth 8000
namespace Go.Proofs
open Go Go.AL

/-- The first var that is not yet one's own is locked, or is another's. -/
def lockF (t : Int) (vars : List TV) : List Int → Option ((Int × Int) × List TV)
  | [] => none
  | n :: r => if (vars.getD n.toNat default).lock = t then lockF t vars r else
    if (vars.getD n.toNat default).lock = -1 then some ((1, 0), vars.set n.toNat { vars.getD n.toNat default with lock := t }) else some ((0, 32), vars)

def TP.commit (x : TP) : TP := { x with commits := true }
def stepF (E : EP) (t : Int) : (Int × Int) × EP := match E.of t with
  | none => ((0, 1), E)
  | some x => if 1 < x.maps.length then ((0, 1), E) else
    if x.pointed then (((putF (E.put t x.commit) t x.commit).1, 0), (putF (E.put t x.commit) t x.commit).2) else
    match lockF t E.vars (keysUpto x.base E.vars.length) with
    | some (a, vs) => (a, { E.put t x.commit with vars := vs })
    | none => if validL t x.start E.vars x.reads ≠ 0 then ((0, validL t x.start E.vars x.reads), E.put t x.commit) else
      if keysUpto x.base E.vars.length = [] then ((4, 0), { E with txs := E.txs.set t.toNat none }) else
      ((2, 0), { E.put t { x.commit with pointed := true, stamp := E.clock + 1, left := keysUpto x.base E.vars.length } with clock := E.clock + 1 })

def TX.commit (x : TX) : TX := { x with commits := true }

/-- A transaction's own cells have turned. -/
theorem TxAt.own {st : St} {x x' : TX} (hT : TxAt st x) (h1 : x'.id = x.id) (h2 : x'.rid = x.rid) (h3 : x'.rver = x.rver) (h4 : x'.pid = x.pid) (h5 : x'.pver = x.pver) (h6 : x'.mids = x.mids) (h7 : x'.maps = x.maps) :
    TxAt (st.set x.id (.cells x'.cells)) x' := by
  have hlt1 := lt_of_get hT.cells
  have n1 : x.id ≠ x.rid := fun e => by have := hT.cells; rw [e, hT.tok] at this; cases this
  obtain ⟨cs, hp, hle, htk⟩ := hT.parts
  have n2 : x.id ≠ x.pid := fun e => by have := hT.cells; rw [e, hp] at this; cases this
  refine ⟨by rw [h1]; exact List.getElem?_set_self hlt1, by rw [h2, h3, List.getElem?_set_ne n1]; exact hT.tok, ⟨cs, by rw [h4, h5, List.getElem?_set_ne n2]; exact hp, by rw [h6]; exact hle, by rw [h6]; exact htk⟩, by rw [h6, h7]; exact hT.len, fun i hi => ?_, by rw [h6]; exact hT.nodup, by rw [h7]; exact hT.keys⟩
  rw [h6] at hi ⊢
  rw [h7]
  have h9 := hT.maps i hi
  rw [List.getElem?_set_ne (hT.ne_map h9).1.symm]
  exact h9

theorem own_eng {st : St} {E : EG} (hE : EngAt st E) {t : Nat} (ht : t < 8) {x x' : TX} (hx : E.txs[t]? = some (some x)) (h1 : x'.id = x.id) (h2 : x'.rid = x.rid) (h3 : x'.rver = x.rver) (h4 : x'.pid = x.pid) (h5 : x'.pver = x.pver) (h6 : x'.mids = x.mids) (h7 : x'.maps = x.maps) :
    EngAt (st.set x.id (.cells x'.cells)) (E.setTx t x') ∧ Fr st E (st.set x.id (.cells x'.cells)) (E.setTx t x') :=
  eng_tx hE ht hx h1 (by simp) (fun j hj _ => List.getElem?_set_ne (fun e => hj (.inl e.symm))) ((hE.tx _ _ hx).own h1 h2 h3 h4 h5 h6 h7) fun j hj => .inl (by
    unfold TX.has at hj ⊢; rw [h1, h2, h4, h6] at hj; exact hj)

theorem keys_len {S : PMap} {n : Nat} (ks : (S.map (·.1)).Nodup) (hb : ∀ k, (pmGet S k).isSome = true → 0 ≤ k ∧ k < (n : Int)) : S.length ≤ n := by
  have h1 : ((S.map (·.1)).map Int.toNat).Nodup := by
    rw [List.Nodup, List.pairwise_map]
    refine List.Pairwise.imp_of_mem ?_ ks
    intro a b ha hb' hab e
    have q1 := hb a (mem_keys.1 ha)
    have q2 := hb b (mem_keys.1 hb')
    omega
  have h2 := nodup_len h1 (n := n) (fun j hj => by
    obtain ⟨a, ha, rfl⟩ := List.mem_map.1 hj
    have q1 := hb a (mem_keys.1 ha)
    omega)
  simpa using h2

set_option maxHeartbeats 8000000 in
theorem step_c {st : St} {E : EG} (hE : EngAt st E) (hF : Fine E) (t : Int) (K : SV → St → Prop)
    (h : ∀ s E', EngAt s E' → Fr st E s E' → E'.abs = (stepF E.abs t).2 → K (.tuple [i64 (stepF E.abs t).1.1, i64 (stepF E.abs t).1.2]) s) : ACalls Try.prog 22 [.ptr E.id 0, i64 t] K st := by
  have hof := of_c hE t
  have hab := abs_of E t
  unfold stepF at h
  rw [hab] at h
  cases hx : E.of t with
  | none =>
    rw [hx] at hof h
    refine acalls_go (M := []) Try.func22 rfl Try.results22 Try.ntmps22 ?_
    simp only [go_sem, reduceCtorEq, Nat.reduceAdd, Nat.reduceMul, Nat.reduceLeDiff, Nat.reduceLT, Int.reduceLE, Int.reduceLT, Int.reduceEq, Nat.reduceBEq, Nat.reduceEqDiff]
    refine hof _ ?_
    simp only [txSV, go_sem, reduceCtorEq, Nat.reduceAdd, Nat.reduceMul, Nat.reduceLeDiff, Nat.reduceLT, Int.reduceLE, Int.reduceLT, Int.reduceEq, Nat.reduceBEq, Nat.reduceEqDiff]
    exact h st E hE (Fr.refl _ _) rfl
  | some x =>
    rw [hx] at hof h
    simp only [Option.map_some, TX.abs_len, TX.abs_base] at h
    obtain ⟨hti, htx⟩ := of_some hx
    have ht : t.toNat < 8 := by omega
    have hT := hE.tx _ x htx
    have h1 := hF.one _ x htx
    have hml := hT.len
    have g := cells_facts hT.cells
    obtain ⟨cs, hp, hd0, hm, hcl⟩ := base_at hT h1
    have w := arr_facts hp
    by_cases c : 1 < x.maps.length
    · have c' : ((1 : Int) < (x.mids.length : Int)) = True := eq_true (by omega)
      rw [if_pos c] at h
      refine acalls_go (M := []) Try.func22 rfl Try.results22 Try.ntmps22 ?_
      simp only [go_sem, reduceCtorEq, Nat.reduceAdd, Nat.reduceMul, Nat.reduceLeDiff, Nat.reduceLT, Int.reduceLE, Int.reduceLT, Int.reduceEq, Nat.reduceBEq, Nat.reduceEqDiff]
      refine hof _ ?_
      simp only [txSV, go_sem, reduceCtorEq, Nat.reduceAdd, Nat.reduceMul, Nat.reduceLeDiff, Nat.reduceLT, Int.reduceLE, Int.reduceLT, Int.reduceEq, Nat.reduceBEq, Nat.reduceEqDiff, g.1, g.2.1, g.2.2, TX.cells, w.1, w.2.1, w.2.2.1, w.2.2.2, c']
      exact h st E hE (Fr.refl _ _) rfl
    · have c' : ((1 : Int) < (x.mids.length : Int)) = False := eq_false (by omega)
      rw [if_neg c] at h
      have hd0' : cs = .mp (x.mids.getD 0 0) :: cs.drop 1 := hd0
      have hcl1 : (0 : Int) < (x.mids.length : Int) := by omega
      have hcommit := own_eng hE ht htx (x' := x.commit) rfl rfl rfl rfl rfl rfl rfl
      obtain ⟨s1, hs1⟩ : ∃ s1, s1 = List.set st x.id (.cells x.commit.cells) := ⟨_, rfl⟩
      have hse : List.set st x.id (.cells [i64 x.start, i64 x.stamp, .slice (.own x.rid x.rver) 1 (x.reads.map i64), .arr x.pid x.pver x.mids.length, .sc (.bool true), .sc (.bool x.pointed), .slice .imm 1 (x.left.map i64)]) = s1 := by rw [hs1]; rfl
      rw [← hs1] at hcommit
      obtain ⟨hE1, hFr1⟩ := hcommit
      have hx1 : (E.setTx t.toNat x.commit).txs[t.toNat]? = some (some x.commit) := by
        show (E.txs.set _ _)[_]? = _
        rw [List.getElem?_set_self (lt_of_get htx)]
      have hT1 := hE1.tx _ _ hx1
      have hab1 : (E.setTx t.toNat x.commit).abs = E.abs.put t x.abs.commit := abs_put E t _
      have a1 := cells_facts hT1.cells
      obtain ⟨cs1, hp1, hd1, hm1, hcl2⟩ := base_at hT1 h1
      have hd1' : cs1 = .mp (x.mids.getD 0 0) :: cs1.drop 1 := hd1
      have b1 : inS s1 x.pid = True ∧ arrOk s1 x.pid x.pver = True ∧ arrZ s1 x.pid = 1 ∧ arrC s1 x.pid = cs1 := arr_facts hp1
      have e1 : inS s1 x.id = True ∧ isObj s1 x.id = True ∧ objAt s1 x.id = x.commit.cells := a1
      have hks := hT.keys (x.maps.getD 0 []) (by simp [List.getD_eq_getElem?_getD, show 0 < x.maps.length by omega])
      have hdom := hF.dom _ x htx (x.maps.getD 0 []) (by simp [List.getD_eq_getElem?_getD, show 0 < x.maps.length by omega])
      have hkl := keys_len hks hdom
      have hmany := hE.many
      have hm1' : s1[x.mids.getD 0 0]? = some (.map (pmEs (x.maps.getD 0 []))) := hm1
      have hsort := sorted_c hm1' hks (by omega) hdom
      obtain ⟨ks, hksd⟩ : ∃ ks, ks = keysUpto (pmGet (x.maps.getD 0 [])) E.vars.length := ⟨_, rfl⟩
      rw [show E.abs.vars = E.vars from rfl, ← hksd] at h
      rw [← hksd] at hsort
      cases hpt : x.pointed with
      | true =>
        rw [if_pos (show x.abs.pointed = true from hpt), ← hab1] at h
        obtain ⟨l1, l2⟩ := hF.left _ x htx hpt
        obtain ⟨n, r, hl⟩ : ∃ n r, x.left = n :: r := by cases hl : x.left with | nil => exact absurd hl l1 | cons n r => exact ⟨n, r, rfl⟩
        have hput := put_c hE1 t hti hx1 h1 (n := n) (r := r) hl (l2 n (by rw [hl]; simp))
        refine acalls_go (M := []) Try.func22 rfl Try.results22 Try.ntmps22 ?_
        simp only [go_sem, reduceCtorEq, Nat.reduceAdd, Nat.reduceMul, Nat.reduceLeDiff, Nat.reduceLT, Int.reduceLE, Int.reduceLT, Int.reduceEq, Nat.reduceBEq, Nat.reduceEqDiff]
        refine hof _ ?_
        simp only [txSV, go_sem, reduceCtorEq, Nat.reduceAdd, Nat.reduceMul, Nat.reduceLeDiff, Nat.reduceLT, Int.reduceLE, Int.reduceLT, Int.reduceEq, Nat.reduceBEq, Nat.reduceEqDiff, g.1, g.2.1, g.2.2, TX.cells, w.1, w.2.1, w.2.2.1, w.2.2.2, c', hse, e1.1, e1.2.1, e1.2.2, b1.1, b1.2.1, b1.2.2.1, b1.2.2.2, TX.commit, hcl1]
        rw [hd1']
        simp only [go_sem, reduceCtorEq, Nat.reduceAdd, Nat.reduceMul, Nat.reduceLeDiff, Nat.reduceLT, Int.reduceLE, Int.reduceLT, Int.reduceEq, Nat.reduceBEq, Nat.reduceEqDiff]
        refine hsort _ ?_
        simp only [txSV, go_sem, reduceCtorEq, Nat.reduceAdd, Nat.reduceMul, Nat.reduceLeDiff, Nat.reduceLT, Int.reduceLE, Int.reduceLT, Int.reduceEq, Nat.reduceBEq, Nat.reduceEqDiff, g.1, g.2.1, g.2.2, TX.cells, w.1, w.2.1, w.2.2.1, w.2.2.2, hse, b1.1, b1.2.1, b1.2.2.1, b1.2.2.2, hcl1, c', e1.1, e1.2.1, e1.2.2, TX.cells, TX.commit, hpt]
        refine hput _ fun s E' k1 k2 k3 => ?_
        simp only [go_sem, reduceCtorEq, Nat.reduceAdd, Nat.reduceMul, Nat.reduceLeDiff, Nat.reduceLT, Int.reduceLE, Int.reduceLT, Int.reduceEq, Nat.reduceBEq, Nat.reduceEqDiff]
        exact h s E' k1 (hFr1.trans k2) k3
      | false =>
        rw [if_neg (show ¬ x.abs.pointed = true from by rw [show x.abs.pointed = x.pointed from rfl, hpt]; decide)] at h
        have hkin : ∀ n ∈ ks, 0 ≤ n ∧ n < (E.vars.length : Int) := fun n hn => by rw [hksd] at hn; exact (mem_keysUpto.1 hn).1
        have hkl2 : ks.length ≤ 4000 := by
          rw [hksd]; unfold keysUpto
          rw [List.length_map]
          exact Nat.le_trans (List.length_filter_le _ _) (by simpa using hmany)
        have f1 : inS s1 E.id = True ∧ isObj s1 E.id = True ∧ objAt s1 E.id = i64 E.clock :: .arr E.vid E.vver E.vars.length :: (E.txs.set t.toNat (some x.commit)).map txSV := cells_facts hE1.cells
        have w1 : inS s1 E.vid = True ∧ arrOk s1 E.vid E.vver = True ∧ arrZ s1 E.vid = 3 ∧ arrC s1 E.vid = E.vars.flatMap tvSV := arr_facts hE1.vars
        refine acalls_go (M := []) Try.func22 rfl Try.results22 Try.ntmps22 ?_
        simp only [go_sem, reduceCtorEq, Nat.reduceAdd, Nat.reduceMul, Nat.reduceLeDiff, Nat.reduceLT, Int.reduceLE, Int.reduceLT, Int.reduceEq, Nat.reduceBEq, Nat.reduceEqDiff]
        refine hof _ ?_
        simp only [txSV, go_sem, reduceCtorEq, Nat.reduceAdd, Nat.reduceMul, Nat.reduceLeDiff, Nat.reduceLT, Int.reduceLE, Int.reduceLT, Int.reduceEq, Nat.reduceBEq, Nat.reduceEqDiff, g.1, g.2.1, g.2.2, TX.cells, w.1, w.2.1, w.2.2.1, w.2.2.2, c', hse, e1.1, e1.2.1, e1.2.2, b1.1, b1.2.1, b1.2.2.1, b1.2.2.2, TX.commit, hcl1]
        rw [hd1']
        simp only [go_sem, reduceCtorEq, Nat.reduceAdd, Nat.reduceMul, Nat.reduceLeDiff, Nat.reduceLT, Int.reduceLE, Int.reduceLT, Int.reduceEq, Nat.reduceBEq, Nat.reduceEqDiff]
        refine hsort _ ?_
        simp only [txSV, go_sem, reduceCtorEq, Nat.reduceAdd, Nat.reduceMul, Nat.reduceLeDiff, Nat.reduceLT, Int.reduceLE, Int.reduceLT, Int.reduceEq, Nat.reduceBEq, Nat.reduceEqDiff, g.1, g.2.1, g.2.2, TX.cells, w.1, w.2.1, w.2.2.1, w.2.2.2, hse, b1.1, b1.2.1, b1.2.2.1, b1.2.2.2, hcl1, c', e1.1, e1.2.1, e1.2.2, TX.cells, TX.commit, hpt]
        refine awp_rounds [] (fun m e s => ∃ (k : Nat), k + m = ks.length ∧ lockF t E.vars ks = lockF t E.vars (ks.drop k) ∧ e = [.ptr E.id 0, i64 t, .any, .any, .any, .any, .ptr x.id 0, .slice .imm 1 (ks.map i64), .any, .any, .any, .any, .any, .any, .any, .any, .any, .any, .any, .any, .any, .any, .any, .any, .any, .any, .any, .any, .any, .any, .any, .any, .any, .any, .any, .any, .any, .any, .any, .any, .any, .any, .slice .imm 1 (ks.map i64), i64 ks.length, i64 k, .any, .any, .any, .any, .any, .any, .any, .any, .any, .any, .any, .any, .any, .any, .any, .any, .any, .any, .any, .any, .any, .any, .any, .any, .any, .any, .any, .any, .any, .any, .any, .any, .any, .any, .any, .any, .any, .any, .any, .any, .any, .any, .any, .any, .any, .any, .any, .any, .any, .any, .any, .any, .any, .any, .any, .any, .any, .any, .any, .any, .any] ∧ s = s1) (n := ks.length) ?_ ⟨0, by omega, rfl, rfl, rfl⟩ ?_
        · repeat (first | exact leEnv_nil | refine leEnv_any _ ?_ | refine leEnv_same _ ?_ | refine leEnv_norm _ ?_)
        rintro m e s ⟨k, hkm, hlk, rfl, rfl⟩
        by_cases hlt : k < ks.length
        · have c1 : (k : Int) < (ks.length : Int) := by omega
          have hw := wrapS k (by omega)
          obtain ⟨n, hn⟩ : ∃ n, n = ks.getD k 0 := ⟨_, rfl⟩
          have hmem : n ∈ ks := by rw [hn]; simp [List.getD_eq_getElem?_getD, hlt]
          obtain ⟨n0, n1⟩ := hkin n hmem
          have hv := vars_drop2 (l := E.vars) (n := n.toNat) (by omega)
          rw [drop_i64 hlt, lockF, ← hn] at hlk
          obtain ⟨y, hy⟩ : ∃ y, y = E.vars.getD n.toNat default := ⟨_, rfl⟩
          rw [← hy] at hv hlk
          simp only [go_sem, reduceCtorEq, Nat.reduceAdd, Nat.reduceMul, Nat.reduceLeDiff, Nat.reduceLT, Int.reduceLE, Int.reduceLT, Int.reduceEq, Nat.reduceBEq, Nat.reduceEqDiff, c1, getD_i64 hlt]
          rw [← hn]
          simp only [go_sem, reduceCtorEq, Nat.reduceAdd, Nat.reduceMul, Nat.reduceLeDiff, Nat.reduceLT, Int.reduceLE, Int.reduceLT, Int.reduceEq, Nat.reduceBEq, Nat.reduceEqDiff, f1.1, f1.2.1, f1.2.2, w1.1, w1.2.1, w1.2.2.1, w1.2.2.2, n0, n1, hv, hw]
          refine ⟨fun c => ?_, fun c => ⟨fun d => ⟨by rw [vars_len]; omega, ?_⟩, fun d => ?_⟩⟩
          · rw [if_pos (by simpa using c)] at hlk
            refine ⟨m - 1, _, by omega, ?_, k + 1, by omega, hlk, rfl⟩
            repeat (first | exact leEnv_nil | refine leEnv_any _ ?_ | refine leEnv_same _ ?_ | refine leEnv_norm _ ?_)
          · rw [if_neg (by simpa using c), if_pos (by simpa using d)] at hlk
            rw [hlk] at h
            have hnl : n.toNat < E.vars.length := by omega
            have e := vars_put2 hnl t
            rw [show SV.sc (Value.int IntKind.i64 t) = i64 t from rfl, e, ← hy]
            have key := eng_core (s := s.set E.vid (.arr E.vver 3 ((E.vars.set n.toNat { y with lock := t }).flatMap tvSV))) (E' := { E.setTx t.toNat x.commit with vars := E.vars.set n.toNat { y with lock := t } }) hE1 rfl rfl rfl
              ((List.getElem?_set_ne hE.vidne.symm).trans (hE1.cells.trans (by simp [EG.cells, EG.setTx]))) (List.getElem?_set_self (lt_of_get hE1.vars)) (by simpa using hmany) (by simp) (fun j q1 q2 q3 => List.getElem?_set_ne (Ne.symm q2))
            exact h _ _ key.1 (hFr1.trans key.2) (by rw [← hab1]; rfl)
          · rw [if_neg (by simpa using c), if_neg (by simpa using d)] at hlk
            rw [hlk] at h
            exact h _ _ hE1 hFr1 (by rw [hab1]; rfl)
        · obtain rfl : k = ks.length := by omega
          rw [List.drop_length] at hlk
          rw [hlk] at h
          have hvl : ∀ K : SV → St → Prop, K (i64 (validL t x.start E.vars x.reads)) s → ACalls Try.prog 63 [.ptr E.id 0, i64 t, .ptr x.id 0] K s := valid_c hE1 t x.commit hT1 (hF.reads _ x htx).1 (hF.reads _ x htx).2.1
          rw [show x.abs.start = x.start from rfl, show x.abs.reads = x.reads from rfl] at h
          obtain ⟨c0, hc0⟩ : ∃ c0, c0 = validL t x.start E.vars x.reads := ⟨_, rfl⟩
          rw [← hc0] at hvl h
          have hcl9 := hF.clk
          have hw : IntKind.i64.wrap (E.clock + 1) = E.clock + 1 := by rw [IntWalk.i64_in _ (by omega)]
          have hne := (hE.tx_ne htx (.inl rfl)).1
          have hne' := hne.symm
          simp only [go_sem, reduceCtorEq, Nat.reduceAdd, Nat.reduceMul, Nat.reduceLeDiff, Nat.reduceLT, Int.reduceLE, Int.reduceLT, Int.reduceEq, Nat.reduceBEq, Nat.reduceEqDiff, Int.lt_irrefl]
          refine hvl _ ?_
          simp only [go_sem, reduceCtorEq, Nat.reduceAdd, Nat.reduceMul, Nat.reduceLeDiff, Nat.reduceLT, Int.reduceLE, Int.reduceLT, Int.reduceEq, Nat.reduceBEq, Nat.reduceEqDiff, f1.1, f1.2.1, f1.2.2, e1.1, e1.2.1, e1.2.2, TX.cells, TX.commit, hw, hne, hne']
          refine ⟨fun d => ?_, fun d => ⟨fun d2 => ?_, fun d2 => ?_⟩⟩
          · rw [if_pos (by simpa using d)] at h
            exact h _ _ hE1 hFr1 hab1
          · have hk0 : ks = [] := by simpa using d2
            rw [if_neg (by simpa using d), if_pos hk0] at h
            refine ⟨⟨hti.1, hti.2⟩, by rw [hE.len]; omega, ?_⟩
            rw [Nat.mul_one]
            have key := eng_gone (s := s.set E.id (.cells ((E.setTx t.toNat x.commit).cells.take (2 + t.toNat) ++ .sc (.pointer none) :: (E.setTx t.toNat x.commit).cells.drop (2 + (t.toNat + 1))))) (vs := E.vars) hE1 ht rfl (by simp)
              (List.getElem?_set_self (lt_of_get hE1.cells)) ((List.getElem?_set_ne hE.vidne).trans hE1.vars) (fun j q1 q2 q3 _ => List.getElem?_set_ne (Ne.symm q1))
            exact h _ _ key.1 (hFr1.trans key.2) (by simp only [EG.abs, EG.setTx, List.set_set, List.map_set]; rfl)
          · have hk0 : ks ≠ [] := by intro e; rw [e] at d2; simp at d2
            rw [if_neg (by simpa using d), if_neg hk0] at h
            have key := eng_core (s := s.set E.id (.cells ({ E.setTx t.toNat x.commit with clock := E.clock + 1 } : EG).cells)) (E' := { E.setTx t.toNat x.commit with clock := E.clock + 1 }) hE1 rfl rfl rfl
              (List.getElem?_set_self (lt_of_get hE1.cells)) ((List.getElem?_set_ne hE.vidne).trans hE1.vars) hmany (by simp) (fun j q1 q2 q3 => List.getElem?_set_ne (Ne.symm q1))
            have key2 := own_eng key.1 ht (x := x.commit) (x' := { x.commit with pointed := true, stamp := E.clock + 1, left := ks }) hx1 rfl rfl rfl rfl rfl rfl rfl
            exact h _ _ key2.1 ((hFr1.trans key.2).trans key2.2) (by simp only [EG.abs, EG.setTx, List.set_set, List.map_set]; rfl)

end Go.Proofs
