/- next: next_none. -/
import Derived.Test.YtammbegfobhflaaGreatW20
set_option linter.all false
set_option linter.unusedSimpArgs false
set_option linter.unusedVariables false
set_option maxRecDepth 8000
namespace Go.Proofs
open Go Go.AL
section
variable {c : Cd} {m1 m2 m3 : AL.Mode} {z1 z2 z3 : Nat} {n : Nat} {f : Bd} {id : Nat} {st : St} {K : SV → St → Prop}
set_option maxHeartbeats 16000000 in
theorem next_none (hw : st[id]? = some (.cells (wkCells c m1 m2 m3 z1 z2 z3 n f))) (hz : c.funs ≠ [] → z1 = 4) (hl : c.funs.length ≤ 1000) (hn : c.funs.getD n default = f) (p : Nat) (hp : p < f.code.length) (hpl : p ≤ 100000) (s : Sta) {k : Nat} (hs : GoodS k s) (hk : k ≤ 10000) (hd : s.depth ≤ 60)
    (hb : 0 ≤ (f.code.getD p default).b ∧ (f.code.getD p default).b ≤ 65535)
    (hr : lookS rulesL (.sc .nilFunc) (f.code.getD p default).op = .sc .nilFunc)
    (h0 : nextF c n p s = none → ∀ X, K (.tuple [X, .sc (.bool false)]) st) (h1 : ∀ m, nextF c n p s = some m → ∀ z, (m ≠ [] → z = 3) → K (.tuple [.slice .imm z (m.map tgSV), .sc (.bool true)]) st) :
    ACalls Tryz.prog 60 [.ptr id 0, i64 p, staSV s] K st := by
  have w := cells_facts hw
  obtain ⟨i, hi⟩ : ∃ i, f.code.getD p default = i := ⟨_, rfl⟩
  have hg : (f.code.map inSV).getD p .any = .agg [i64 i.op, i64 i.a, i64 i.b] := by rw [← hi]; exact getD_map' _ hp
  have c1 : (p : Int) < (f.code.length : Int) := by omega
  have c0 : (0 : Int) ≤ (p : Int) := by omega
  unfold nextF at h0 h1
  simp only [hn, hi] at h0 h1 hb
  obtain ⟨e1, e2, e3, e4⟩ := eff_bnd (c := c) (n := n) (i := i) hb
  have hbase := base_pos hs
  obtain ⟨g1, g2, g3, g4⟩ := hs
  refine acalls_go_pure [] Tryz.func60 rfl Tryz.results60 Tryz.ntmps60 ?_
  simp only [↓reduceIte, ↓c_condI, ↓c_seqH, ↓c_blockH, ↓then_nH, ↓then_rH, ↓then_eH, ↓block_nH, ↓block_rH, ↓block_eH, go_sem, w.1, w.2.1, w.2.2, wkCells, cdCells, insSV, List.length_map, c1, c0, hg, staSV]
  obtain ⟨S1, hS1⟩ : ∃ S1, st ++ [Ob.cells [i64 i.op, i64 i.a, i64 i.b]] = S1 := ⟨_, rfl⟩
  have hs1 : S1[st.length]? = some (.cells [i64 i.op, i64 i.a, i64 i.b]) := by rw [← hS1]; simp
  have hw1 : S1[id]? = some (.cells (wkCells c m1 m2 m3 z1 z2 z3 n f)) := by rw [← hS1]; exact get_app hw _
  rw [hS1]
  have q := cells_facts hs1
  refine awp_drawD [] [0] [([], S1), ([0], S1 ++ [Ob.map (litMap rulesL)])] [[[]], [[], [0]], [[], [0]], [[0]], [[0]]] Tryz.mixed rfl rfl rfl rfl rfl ?_
  refine dD_t1 (d := [0]) rfl rfl (.mp (List.length S1)) rfl (by simp only [↓reduceIte, ↓c_condI, ↓c_seqH, ↓c_blockH, ↓then_nH, ↓then_rH, ↓then_eH, ↓block_nH, ↓block_rH, ↓block_eH, go_sem]; exact rules_c _ _ ⟨rfl, rfl⟩) ?_
  refine dD_p2 rfl (.ptr st.length 0) (by simp only [↓reduceIte, ↓c_condI, ↓c_seqH, ↓c_blockH, ↓then_nH, ↓then_rH, ↓then_eH, ↓block_nH, ↓block_rH, ↓block_eH, go_sem]) (by simp only [↓reduceIte, ↓c_condI, ↓c_seqH, ↓c_blockH, ↓then_nH, ↓then_rH, ↓then_eH, ↓block_nH, ↓block_rH, ↓block_eH, go_sem]) ?_
  refine dD_p2 rfl (i64 i.op) (by show d1Spec Tryz.prog _ _ _ _ S1 _; simp only [↓reduceIte, ↓c_condI, ↓c_seqH, ↓c_blockH, ↓then_nH, ↓then_rH, ↓then_eH, ↓block_nH, ↓block_rH, ↓block_eH, go_sem, q.1, q.2.1, q.2.2]) (by show d1Spec Tryz.prog _ _ _ _ (S1 ++ [Ob.map (litMap rulesL)]) _; simp only [↓reduceIte, ↓c_condI, ↓c_seqH, ↓c_blockH, ↓then_nH, ↓then_rH, ↓then_eH, ↓block_nH, ↓block_rH, ↓block_eH, go_sem, q.1, q.2.1, q.2.2]) ?_
  obtain ⟨S2, hS2⟩ : ∃ S2, S1 ++ [Ob.map (litMap rulesL)] = S2 := ⟨_, rfl⟩
  have hw2 : S2[id]? = some (.cells (wkCells c m1 m2 m3 z1 z2 z3 n f)) := by rw [← hS2]; exact get_app hw1 _
  have hs2 : S2[st.length]? = some (.cells [i64 i.op, i64 i.a, i64 i.b]) := by rw [← hS2]; exact get_app hs1 _
  have hex : ∀ ex, ∃ ex', S2 ++ ex = st ++ ex' := fun ex => ⟨[Ob.cells [i64 i.op, i64 i.a, i64 i.b]] ++ [Ob.map (litMap rulesL)] ++ ex, by rw [← hS2, ← hS1]; simp⟩
  have hex0 : ∃ ex', S2 = st ++ ex' := by have := hex []; rwa [List.append_nil] at this
  have q2 := cells_facts hs2
  have w2 := cells_facts hw2
  have hrt := rule_told hw2 hz hl hn i
  obtain ⟨X, hX⟩ : ∃ X, lookS rulesL (.sc .nilFunc) i.op = X := ⟨_, rfl⟩
  rw [hX] at hrt
  have hXc : (∃ f caps, X = .func f [] caps) ∨ X = .sc .nilFunc := by
    rcases hrt with ⟨h, _⟩ | ⟨g, caps, h, _⟩
    · exact .inr h
    · exact .inl ⟨_, _, h⟩
  refine dD_p1 rfl X ?_ ?_
  · show d1Spec Tryz.prog _ _ _ _ (S1 ++ [.map (litMap rulesL)]) _
    simp only [↓reduceIte, ↓c_condI, ↓c_seqH, ↓c_blockH, ↓then_nH, ↓then_rH, ↓then_eH, ↓block_nH, ↓block_rH, ↓block_eH, go_sem, get_rule, hX]
  refine dD_p1 rfl X ?_ ?_
  · rcases hXc with ⟨f, caps, rfl⟩ | rfl <;> simp only [↓reduceIte, ↓c_condI, ↓c_seqH, ↓c_blockH, ↓then_nH, ↓then_rH, ↓then_eH, ↓block_nH, ↓block_rH, ↓block_eH, go_sem]
  refine dD_end ?_
  rw [show AL.look [([], S1), ([0], S1 ++ [Ob.map (litMap rulesL)])] [0] = S2 from hS2]
  clear hXc
  have hno : (effF c n i).1 = false ∨ s.depth - (effF c n i).2.1 < baseF s → ∀ X, K (.tuple [X, .sc (.bool false)]) st := fun h => h0 (by rw [if_pos h])
  have hyes : (effF c n i).1 = true → ¬ (s.depth - (effF c n i).2.1 < baseF s) → (goF i ((p : Int) + 1) s ⟨s.depth - (effF c n i).2.1 + (effF c n i).2.2, s.marks⟩ = none → ∀ X, K (.tuple [X, .sc (.bool false)]) st) ∧
      ∀ m, goF i ((p : Int) + 1) s ⟨s.depth - (effF c n i).2.1 + (effF c n i).2.2, s.marks⟩ = some m → ∀ z, (m ≠ [] → z = 3) → K (.tuple [.slice .imm z (m.map tgSV), .sc (.bool true)]) st := by
    intro a b
    have hneg : ¬ ((effF c n i).1 = false ∨ s.depth - (effF c n i).2.1 < baseF s) := by rintro (h | h); rw [a] at h; cases h; exact b h
    rw [if_neg hneg] at h0 h1
    exact ⟨h0, h1⟩
  clear h0 h1
  rw [hi, hX] at hr
  rcases hrt with ⟨rfl, heff⟩ | ⟨g, caps, rfl, hgb, hgc⟩
  · rw [heff] at hno hyes e1 e2 e3 e4
    simp only at hno hyes e1 e2 e3 e4
    · simp only [↓reduceIte, ↓c_condI, ↓c_seqH, ↓c_blockH, ↓then_nH, ↓then_rH, ↓then_eH, ↓block_nH, ↓block_rH, ↓block_eH, go_sem, q2.1, q2.2.1, q2.2.2]
      have hm9 : s.marks.length ≤ 100000 := by omega
      have hst : s.depth + ((0 : Int) - (0 : Int)) = s.depth - (0 : Int) + (0 : Int) := by omega
      have hd1 : -100000 ≤ s.depth ∧ s.depth ≤ 100000 := by omega
      have hd2 : -100000 ≤ (0 : Int) - (0 : Int) ∧ (0 : Int) - (0 : Int) ≤ 100000 := by omega
      have hwp : IntKind.i64.wrap ((p : Int) + 1) = ((p : Int) + 1) := IntWalk.i64_in _ (by omega)
      have hwq : IntKind.i64.wrap ((0 : Int) - (0 : Int)) = (0 : Int) - (0 : Int) := IntWalk.i64_in _ (by omega)
      have hwT : IntKind.i64.wrap (s.depth - (0 : Int)) = s.depth - (0 : Int) := IntWalk.i64_in _ (by omega)
      obtain ⟨t, ht⟩ : ∃ t, (⟨s.depth - (0 : Int) + (0 : Int), s.marks⟩ : Sta) = t := ⟨_, rfl⟩
      obtain ⟨A, hA⟩ : ∃ A, Ob.cells [SV.sc (.int .i64 ((p : Int) + 1)), i64 t.depth, .slice .imm 2 (t.marks.map mkSV)] = A := ⟨_, rfl⟩
      have q3 := cells_facts (get_app hs2 [A])
      have q4 := cells_facts (get_app hs2 [A, .map wES])
      refine awp_drawH [] Tryz.mixed rfl fun R hR => ?_
      simp only [↓reduceIte, ↓c_condI, ↓c_seqH, ↓c_blockH, ↓then_nH, ↓then_rH, ↓then_eH, ↓block_nH, ↓block_rH, ↓block_eH, go_sem]
      rw [dk_eff]
      refine ⟨i64 (baseF s), ?_, ?_⟩
      · simp only [↓reduceIte, ↓c_condI, ↓c_seqH, ↓c_blockH, ↓then_nH, ↓then_rH, ↓then_eH, ↓block_nH, ↓block_rH, ↓block_eH, go_sem]
        exact base_c s hm9 _ _ ⟨⟨[], by simp⟩, .sc _, .inl rfl⟩
      by_cases hbd : s.depth - (0 : Int) < baseF s
      · simp only [↓reduceIte, ↓c_condI, ↓c_seqH, ↓c_blockH, ↓then_nH, ↓then_rH, ↓then_eH, ↓block_nH, ↓block_rH, ↓block_eH, go_sem, hwT, hbd]
        rw [hR]
        simp (maxSteps := 2000000) only [↓reduceIte, ↓c_condI, ↓c_seqH, ↓c_blockH, ↓then_nH, ↓then_rH, ↓then_eH, ↓block_nH, ↓block_rH, ↓block_eH, go_sem, hwT, hbd]
        have hno := hno (.inr hbd)
        exact fin_no (l := []) hex0 (fun h => absurd rfl h) hno
      obtain ⟨hno2, hyes⟩ := hyes (by trivial) hbd
      clear hno
      rw [ht] at hno2 hyes
      unfold goF at hno2 hyes
      simp only [↓reduceIte, ↓c_condI, ↓c_seqH, ↓c_blockH, ↓then_nH, ↓then_rH, ↓then_eH, ↓block_nH, ↓block_rH, ↓block_eH, go_sem, hwT, hbd]
      rw [hR]
      clear hR
      simp (maxSteps := 2000000) only [↓reduceIte, ↓c_condI, ↓c_seqH, ↓c_blockH, ↓then_nH, ↓then_rH, ↓then_eH, ↓block_nH, ↓block_rH, ↓block_eH, go_sem, hwT, hbd, hwp, hwq]
      refine moved_t s t ((0 : Int) - (0 : Int)) hd1 hd2 (by rw [hst]; exact ht) _ _ ?_
      by_cases o14 : i.op = 14
      · simp only [o14, Int.reduceEq, or_false, false_or, or_true, true_or, if_true, if_false, reduceIte] at hno2 hyes
        simp (maxSteps := 2000000) only [↓reduceIte, ↓c_condI, ↓c_seqH, ↓c_blockH, ↓then_nH, ↓then_rH, ↓then_eH, ↓block_nH, ↓block_rH, ↓block_eH, go_sem, staSV, mksSV, q2.1, q2.2.1, q2.2.2, o14, hwp, hA, Int.reduceBEq]
        refine awp_draw [] Tryz.mixed rfl ?_
        simp (maxSteps := 2000000) only [↓reduceIte, ↓c_condI, ↓c_seqH, ↓c_blockH, ↓then_nH, ↓then_rH, ↓then_eH, ↓block_nH, ↓block_rH, ↓block_eH, go_sem, q3.1, q3.2.1, q3.2.2, o14, hwp, List.length_map]
        by_cases hm : s.marks = []
        · rw [if_pos hm] at hyes
          rw [show ((s.marks.length : Int) == 0) = true from by simp [hm]]
          exact fin_yes (l := []) (hex _) (fun h => absurd rfl h) (hyes _ rfl 0 (fun h => absurd rfl h))
        · rw [if_neg hm] at hno2
          rw [show ((s.marks.length : Int) == 0) = false from by simp [hm]]
          exact fin_no (l := []) (hex _) (fun h => absurd rfl h) (hno2 rfl)
      by_cases o15 : i.op = 15
      · simp only [o15, Int.reduceEq, or_false, false_or, or_true, true_or, if_true, if_false, reduceIte] at hno2 hyes
        simp (maxSteps := 2000000) only [↓reduceIte, ↓c_condI, ↓c_seqH, ↓c_blockH, ↓then_nH, ↓then_rH, ↓then_eH, ↓block_nH, ↓block_rH, ↓block_eH, go_sem, staSV, mksSV, q2.1, q2.2.1, q2.2.2, o15, hwp, hA, Int.reduceBEq]
        refine awp_draw [] Tryz.mixed rfl ?_
        simp (maxSteps := 2000000) only [↓reduceIte, ↓c_condI, ↓c_seqH, ↓c_blockH, ↓then_nH, ↓then_rH, ↓then_eH, ↓block_nH, ↓block_rH, ↓block_eH, go_sem, q3.1, q3.2.1, q3.2.2, o15, hwp, List.length_map]
        by_cases hm : s.marks = []
        · rw [if_pos hm] at hyes
          rw [show ((s.marks.length : Int) == 0) = true from by simp [hm]]
          exact fin_yes (l := []) (hex _) (fun h => absurd rfl h) (hyes _ rfl 0 (fun h => absurd rfl h))
        · rw [if_neg hm] at hno2
          rw [show ((s.marks.length : Int) == 0) = false from by simp [hm]]
          exact fin_no (l := []) (hex _) (fun h => absurd rfl h) (hno2 rfl)
      by_cases o23 : i.op = 23
      · simp only [o23, Int.reduceEq, or_false, false_or, or_true, true_or, if_true, if_false, reduceIte] at hno2 hyes
        simp (maxSteps := 2000000) only [↓reduceIte, ↓c_condI, ↓c_seqH, ↓c_blockH, ↓then_nH, ↓then_rH, ↓then_eH, ↓block_nH, ↓block_rH, ↓block_eH, go_sem, staSV, mksSV, q2.1, q2.2.1, q2.2.2, o23, hwp, hA, Int.reduceBEq]
        exact fin_yes (l := []) (hex _) (fun h => absurd rfl h) (hyes _ rfl 0 (fun h => absurd rfl h))
      by_cases o30 : i.op = 30
      · simp only [o30, Int.reduceEq, or_false, false_or, or_true, true_or, if_true, if_false, reduceIte] at hno2 hyes
        simp (maxSteps := 2000000) only [↓reduceIte, ↓c_condI, ↓c_seqH, ↓c_blockH, ↓then_nH, ↓then_rH, ↓then_eH, ↓block_nH, ↓block_rH, ↓block_eH, go_sem, staSV, mksSV, q2.1, q2.2.1, q2.2.2, o30, hwp, hA, Int.reduceBEq]
        exact fin_yes (l := []) (hex _) (fun h => absurd rfl h) (hyes _ rfl 0 (fun h => absurd rfl h))
      by_cases o16 : i.op = 16
      · simp only [o16, Int.reduceEq, or_false, false_or, or_true, true_or, if_true, if_false, reduceIte] at hno2 hyes
        simp (maxSteps := 2000000) only [↓reduceIte, ↓c_condI, ↓c_seqH, ↓c_blockH, ↓then_nH, ↓then_rH, ↓then_eH, ↓block_nH, ↓block_rH, ↓block_eH, go_sem, staSV, mksSV, q2.1, q2.2.1, q2.2.2, o16, hwp, hA, Int.reduceBEq]
        exact fin_yes (l := [(i.a, s)]) (hex _) (fun _ => rfl) (hyes _ rfl 3 (fun _ => rfl))
      by_cases o17 : i.op = 17
      · simp only [o17, Int.reduceEq, or_false, false_or, or_true, true_or, if_true, if_false, reduceIte] at hno2 hyes
        simp (maxSteps := 2000000) only [↓reduceIte, ↓c_condI, ↓c_seqH, ↓c_blockH, ↓then_nH, ↓then_rH, ↓then_eH, ↓block_nH, ↓block_rH, ↓block_eH, go_sem, staSV, mksSV, q2.1, q2.2.1, q2.2.2, o17, hwp, Int.reduceBEq]
        exact fin_yes (l := [((p : Int) + 1, t), (i.a, t)]) (hex _) (fun _ => rfl) (hyes _ rfl 3 (fun _ => rfl))
      by_cases o18 : i.op = 18
      · simp only [o18, Int.reduceEq, or_false, false_or, or_true, true_or, if_true, if_false, reduceIte] at hno2 hyes
        simp (maxSteps := 2000000) only [↓reduceIte, ↓c_condI, ↓c_seqH, ↓c_blockH, ↓then_nH, ↓then_rH, ↓then_eH, ↓block_nH, ↓block_rH, ↓block_eH, go_sem, staSV, mksSV, q2.1, q2.2.1, q2.2.2, o18, hwp, Int.reduceBEq]
        exact fin_yes (l := [((p : Int) + 1, t), (i.b, t)]) (hex _) (fun _ => rfl) (hyes _ rfl 3 (fun _ => rfl))
      by_cases o21 : i.op = 21
      · simp only [o21, Int.reduceEq, or_false, false_or, or_true, true_or, if_true, if_false, reduceIte] at hno2 hyes
        simp (maxSteps := 2000000) only [↓reduceIte, ↓c_condI, ↓c_seqH, ↓c_blockH, ↓then_nH, ↓then_rH, ↓then_eH, ↓block_nH, ↓block_rH, ↓block_eH, go_sem, staSV, mksSV, q2.1, q2.2.1, q2.2.2, o21, hwp, hA, Int.reduceBEq]
        refine awp_draw [] Tryz.mixed rfl ?_
        simp (maxSteps := 2000000) only [↓reduceIte, ↓c_condI, ↓c_seqH, ↓c_blockH, ↓then_nH, ↓then_rH, ↓then_eH, ↓block_nH, ↓block_rH, ↓block_eH, go_sem, q3.1, q3.2.1, q3.2.2, o21, hwp, List.length_map]
        rw [dk_eff]
        refine ⟨staSV (withF s 21), ?_, ?_⟩
        · simp only [↓reduceIte, ↓c_condI, ↓c_seqH, ↓c_blockH, ↓then_nH, ↓then_rH, ↓then_eH, ↓block_nH, ↓block_rH, ↓block_eH, go_sem, o21]
          exact with_c s 21 hm9 _ _ ⟨⟨[], by simp⟩, ids_sta _ _, .inl rfl⟩
        simp (maxSteps := 2000000) only [↓reduceIte, ↓c_condI, ↓c_seqH, ↓c_blockH, ↓then_nH, ↓then_rH, ↓then_eH, ↓block_nH, ↓block_rH, ↓block_eH, go_sem, q3.1, q3.2.1, q3.2.2, o21, hwp, staSV, mksSV]
        rw [dk_eff]
        refine ⟨tgSV ((p : Int) + 1, withF s 21), ?_, ?_⟩
        · simp only [↓reduceIte, ↓c_condI, ↓c_seqH, ↓c_blockH, ↓then_nH, ↓then_rH, ↓then_eH, ↓block_nH, ↓block_rH, ↓block_eH, go_sem, staSV, mksSV, tgSV, hwp]
          exact ⟨⟨[], by simp⟩, ids_tg _ ((p : Int) + 1, withF s 21), .inl rfl⟩
        simp (maxSteps := 2000000) only [↓reduceIte, ↓c_condI, ↓c_seqH, ↓c_blockH, ↓then_nH, ↓then_rH, ↓then_eH, ↓block_nH, ↓block_rH, ↓block_eH, go_sem, q3.1, q3.2.1, q3.2.2, hwp, staSV, mksSV, tgSV]
        rw [dk_eff]
        refine ⟨staSV ⟨s.depth + 1, s.marks⟩, ?_, ?_⟩
        · simp only [↓reduceIte, ↓c_condI, ↓c_seqH, ↓c_blockH, ↓then_nH, ↓then_rH, ↓then_eH, ↓block_nH, ↓block_rH, ↓block_eH, go_sem]
          exact moved_c s 1 hd1 (by decide) _ _ ⟨⟨[], by simp⟩, ids_sta _ _, .inl rfl⟩
        simp (maxSteps := 2000000) only [↓reduceIte, ↓c_condI, ↓c_seqH, ↓c_blockH, ↓then_nH, ↓then_rH, ↓then_eH, ↓block_nH, ↓block_rH, ↓block_eH, go_sem, q3.1, q3.2.1, q3.2.2, hwp, staSV, mksSV]
        rw [dk_eff]
        refine ⟨tgSV (i.a, ⟨s.depth + 1, s.marks⟩), ?_, ?_⟩
        · simp only [↓reduceIte, ↓c_condI, ↓c_seqH, ↓c_blockH, ↓then_nH, ↓then_rH, ↓then_eH, ↓block_nH, ↓block_rH, ↓block_eH, go_sem, staSV, mksSV, tgSV, hwp]
          exact ⟨⟨[], by simp⟩, ids_tg _ (i.a, ⟨s.depth + 1, s.marks⟩), .inl rfl⟩
        simp (maxSteps := 2000000) only [↓reduceIte, ↓c_condI, ↓c_seqH, ↓c_blockH, ↓then_nH, ↓then_rH, ↓then_eH, ↓block_nH, ↓block_rH, ↓block_eH, go_sem, q3.1, q3.2.1, q3.2.2, hwp, staSV, mksSV, tgSV]
        rw [dk_eff]
        refine ⟨.slice .full 3 (([((p : Int) + 1, withF s 21), (i.a, ⟨s.depth + 1, s.marks⟩)] : List (Int × Sta)).map tgSV), ?_, ?_⟩
        · simp only [↓reduceIte, ↓c_condI, ↓c_seqH, ↓c_blockH, ↓then_nH, ↓then_rH, ↓then_eH, ↓block_nH, ↓block_rH, ↓block_eH, go_sem, staSV, mksSV, tgSV, hwp]
          exact ⟨⟨[], by simp⟩, ids_tgs _ .full (.inr rfl) 3 [((p : Int) + 1, withF s 21), (i.a, ⟨s.depth + 1, s.marks⟩)] (fun _ => rfl), .inl rfl⟩
        simp (maxSteps := 2000000) only [↓reduceIte, ↓c_condI, ↓c_seqH, ↓c_blockH, ↓then_nH, ↓then_rH, ↓then_eH, ↓block_nH, ↓block_rH, ↓block_eH, go_sem, q3.1, q3.2.1, q3.2.2, hwp, staSV, mksSV, tgSV]
        exact fin_yes (l := [((p : Int) + 1, withF s 21), (i.a, ⟨s.depth + 1, s.marks⟩)]) (hex _) (fun _ => rfl) (hyes _ rfl 3 (fun _ => rfl))
      by_cases o28 : i.op = 28
      · simp only [o28, Int.reduceEq, or_false, false_or, or_true, true_or, if_true, if_false, reduceIte] at hno2 hyes
        simp (maxSteps := 2000000) only [↓reduceIte, ↓c_condI, ↓c_seqH, ↓c_blockH, ↓then_nH, ↓then_rH, ↓then_eH, ↓block_nH, ↓block_rH, ↓block_eH, go_sem, staSV, mksSV, q2.1, q2.2.1, q2.2.2, o28, hwp, hA, Int.reduceBEq]
        refine awp_draw [] Tryz.mixed rfl ?_
        simp (maxSteps := 2000000) only [↓reduceIte, ↓c_condI, ↓c_seqH, ↓c_blockH, ↓then_nH, ↓then_rH, ↓then_eH, ↓block_nH, ↓block_rH, ↓block_eH, go_sem, q3.1, q3.2.1, q3.2.2, o28, hwp, List.length_map]
        rw [dk_eff]
        refine ⟨staSV (withF s 28), ?_, ?_⟩
        · simp only [↓reduceIte, ↓c_condI, ↓c_seqH, ↓c_blockH, ↓then_nH, ↓then_rH, ↓then_eH, ↓block_nH, ↓block_rH, ↓block_eH, go_sem, o28]
          exact with_c s 28 hm9 _ _ ⟨⟨[], by simp⟩, ids_sta _ _, .inl rfl⟩
        simp (maxSteps := 2000000) only [↓reduceIte, ↓c_condI, ↓c_seqH, ↓c_blockH, ↓then_nH, ↓then_rH, ↓then_eH, ↓block_nH, ↓block_rH, ↓block_eH, go_sem, q3.1, q3.2.1, q3.2.2, o28, hwp, staSV, mksSV]
        rw [dk_eff]
        refine ⟨tgSV ((p : Int) + 1, withF s 28), ?_, ?_⟩
        · simp only [↓reduceIte, ↓c_condI, ↓c_seqH, ↓c_blockH, ↓then_nH, ↓then_rH, ↓then_eH, ↓block_nH, ↓block_rH, ↓block_eH, go_sem, staSV, mksSV, tgSV, hwp]
          exact ⟨⟨[], by simp⟩, ids_tg _ ((p : Int) + 1, withF s 28), .inl rfl⟩
        simp (maxSteps := 2000000) only [↓reduceIte, ↓c_condI, ↓c_seqH, ↓c_blockH, ↓then_nH, ↓then_rH, ↓then_eH, ↓block_nH, ↓block_rH, ↓block_eH, go_sem, q3.1, q3.2.1, q3.2.2, hwp, staSV, mksSV, tgSV]
        rw [dk_eff]
        refine ⟨tgSV (i.a, s), ?_, ?_⟩
        · simp only [↓reduceIte, ↓c_condI, ↓c_seqH, ↓c_blockH, ↓then_nH, ↓then_rH, ↓then_eH, ↓block_nH, ↓block_rH, ↓block_eH, go_sem, staSV, mksSV, tgSV, hwp]
          exact ⟨⟨[], by simp⟩, ids_tg _ (i.a, s), .inl rfl⟩
        simp (maxSteps := 2000000) only [↓reduceIte, ↓c_condI, ↓c_seqH, ↓c_blockH, ↓then_nH, ↓then_rH, ↓then_eH, ↓block_nH, ↓block_rH, ↓block_eH, go_sem, q3.1, q3.2.1, q3.2.2, hwp, staSV, mksSV, tgSV]
        rw [dk_eff]
        refine ⟨.slice .full 3 (([((p : Int) + 1, withF s 28), (i.a, s)] : List (Int × Sta)).map tgSV), ?_, ?_⟩
        · simp only [↓reduceIte, ↓c_condI, ↓c_seqH, ↓c_blockH, ↓then_nH, ↓then_rH, ↓then_eH, ↓block_nH, ↓block_rH, ↓block_eH, go_sem, staSV, mksSV, tgSV, hwp]
          exact ⟨⟨[], by simp⟩, ids_tgs _ .full (.inr rfl) 3 [((p : Int) + 1, withF s 28), (i.a, s)] (fun _ => rfl), .inl rfl⟩
        simp (maxSteps := 2000000) only [↓reduceIte, ↓c_condI, ↓c_seqH, ↓c_blockH, ↓then_nH, ↓then_rH, ↓then_eH, ↓block_nH, ↓block_rH, ↓block_eH, go_sem, q3.1, q3.2.1, q3.2.2, hwp, staSV, mksSV, tgSV]
        exact fin_yes (l := [((p : Int) + 1, withF s 28), (i.a, s)]) (hex _) (fun _ => rfl) (hyes _ rfl 3 (fun _ => rfl))
      by_cases o26 : i.op = 26
      · simp only [o26, Int.reduceEq, or_false, false_or, or_true, true_or, if_true, if_false, reduceIte] at hno2 hyes
        simp (maxSteps := 2000000) only [↓reduceIte, ↓c_condI, ↓c_seqH, ↓c_blockH, ↓then_nH, ↓then_rH, ↓then_eH, ↓block_nH, ↓block_rH, ↓block_eH, go_sem, staSV, mksSV, q2.1, q2.2.1, q2.2.2, o26, hwp, hA, Int.reduceBEq]
        refine awp_draw [] Tryz.mixed rfl ?_
        simp (maxSteps := 2000000) only [↓reduceIte, ↓c_condI, ↓c_seqH, ↓c_blockH, ↓then_nH, ↓then_rH, ↓then_eH, ↓block_nH, ↓block_rH, ↓block_eH, go_sem, q3.1, q3.2.1, q3.2.2, o26, hwp, List.length_map]
        rw [dk_eff]
        refine ⟨staSV (withF s 26), ?_, ?_⟩
        · simp only [↓reduceIte, ↓c_condI, ↓c_seqH, ↓c_blockH, ↓then_nH, ↓then_rH, ↓then_eH, ↓block_nH, ↓block_rH, ↓block_eH, go_sem, o26]
          exact with_c s 26 hm9 _ _ ⟨⟨[], by simp⟩, ids_sta _ _, .inl rfl⟩
        simp (maxSteps := 2000000) only [↓reduceIte, ↓c_condI, ↓c_seqH, ↓c_blockH, ↓then_nH, ↓then_rH, ↓then_eH, ↓block_nH, ↓block_rH, ↓block_eH, go_sem, q3.1, q3.2.1, q3.2.2, o26, hwp, staSV, mksSV]
        rw [dk_eff]
        refine ⟨tgSV ((p : Int) + 1, withF s 26), ?_, ?_⟩
        · simp only [↓reduceIte, ↓c_condI, ↓c_seqH, ↓c_blockH, ↓then_nH, ↓then_rH, ↓then_eH, ↓block_nH, ↓block_rH, ↓block_eH, go_sem, staSV, mksSV, tgSV, hwp]
          exact ⟨⟨[], by simp⟩, ids_tg _ ((p : Int) + 1, withF s 26), .inl rfl⟩
        simp (maxSteps := 2000000) only [↓reduceIte, ↓c_condI, ↓c_seqH, ↓c_blockH, ↓then_nH, ↓then_rH, ↓then_eH, ↓block_nH, ↓block_rH, ↓block_eH, go_sem, q3.1, q3.2.1, q3.2.2, hwp, staSV, mksSV, tgSV]
        rw [dk_eff]
        refine ⟨.slice .full 3 (([((p : Int) + 1, withF s 26)] : List (Int × Sta)).map tgSV), ?_, ?_⟩
        · simp only [↓reduceIte, ↓c_condI, ↓c_seqH, ↓c_blockH, ↓then_nH, ↓then_rH, ↓then_eH, ↓block_nH, ↓block_rH, ↓block_eH, go_sem, staSV, mksSV, tgSV, hwp]
          exact ⟨⟨[], by simp⟩, ids_tgs _ .full (.inr rfl) 3 [((p : Int) + 1, withF s 26)] (fun _ => rfl), .inl rfl⟩
        simp (maxSteps := 2000000) only [↓reduceIte, ↓c_condI, ↓c_seqH, ↓c_blockH, ↓then_nH, ↓then_rH, ↓then_eH, ↓block_nH, ↓block_rH, ↓block_eH, go_sem, q3.1, q3.2.1, q3.2.2, hwp, staSV, mksSV, tgSV]
        rw [dk_eff]
        refine ⟨.sc (.bool (s.marks.any fun m => m.1 == 26)), ?_, ?_⟩
        · simp only [↓reduceIte, ↓c_condI, ↓c_seqH, ↓c_blockH, ↓then_nH, ↓then_rH, ↓then_eH, ↓block_nH, ↓block_rH, ↓block_eH, go_sem]
          exact containsF69_c mkSV (fun m => m.1 == 26) .imm s.marks 2 (fun _ => rfl) 81 [] (by kernel_rfl) (fun x => cellsOf_mk x Tryz.aagg145 Tryz.asize145) (by omega) _ (fun x _ K h => tm_c x.1 K _ h x.2) _ ⟨⟨[], by simp⟩, .sc _, .inl rfl⟩
        cases hA26 : s.marks.any (fun m => m.1 == 26)
        · rw [hA26] at hyes
          simp (maxSteps := 2000000) only [↓reduceIte, ↓c_condI, ↓c_seqH, ↓c_blockH, ↓then_nH, ↓then_rH, ↓then_eH, ↓block_nH, ↓block_rH, ↓block_eH, go_sem, hwp, staSV, mksSV, hA26]
          exact fin_yes (l := [((p : Int) + 1, withF s 26)]) (hex _) (fun _ => rfl) (hyes _ rfl 3 (fun _ => rfl))
        · rw [hA26] at hno2
          simp (maxSteps := 2000000) only [↓reduceIte, ↓c_condI, ↓c_seqH, ↓c_blockH, ↓then_nH, ↓then_rH, ↓then_eH, ↓block_nH, ↓block_rH, ↓block_eH, go_sem, hwp, staSV, mksSV, hA26]
          exact fin_no (l := [((p : Int) + 1, withF s 26)]) (hex _) (fun _ => rfl) (hno2 rfl)
      by_cases o22 : i.op = 22
      · simp only [o22, Int.reduceEq, or_false, false_or, or_true, true_or, if_true, if_false, reduceIte] at hno2 hyes
        simp (maxSteps := 2000000) only [↓reduceIte, ↓c_condI, ↓c_seqH, ↓c_blockH, ↓then_nH, ↓then_rH, ↓then_eH, ↓block_nH, ↓block_rH, ↓block_eH, go_sem, staSV, mksSV, q2.1, q2.2.1, q2.2.2, o22, hwp, hA, Int.reduceBEq]
        by_cases hm : ∃ m, s.marks.getLast? = some m ∧ m.1 = 21
        · simp (maxDischargeDepth := 60) only [put_app2 Tryz.amap100, intKeys_nil', intKeys_put', w_es]
          simp (maxSteps := 2000000) only [↓reduceIte, ↓c_condI, ↓c_seqH, ↓c_blockH, ↓then_nH, ↓then_rH, ↓then_eH, ↓block_nH, ↓block_rH, ↓block_eH, go_sem, q4.1, q4.2.1, q4.2.2, o22, get_w22]
          refine without_yes s 21 hm hm9 _ _ ?_
          simp (maxSteps := 2000000) only [↓reduceIte, ↓c_condI, ↓c_seqH, ↓c_blockH, ↓then_nH, ↓then_rH, ↓then_eH, ↓block_nH, ↓block_rH, ↓block_eH, go_sem, hwp, staSV, mksSV]
          exact fin_yes (l := [((p : Int) + 1, ⟨s.depth, s.marks.dropLast⟩)]) (hex _) (fun _ => rfl) (hyes _ (lv_yes hm) 3 (fun _ => rfl))
        · simp (maxDischargeDepth := 60) only [put_app2 Tryz.amap100, intKeys_nil', intKeys_put', w_es]
          simp (maxSteps := 2000000) only [↓reduceIte, ↓c_condI, ↓c_seqH, ↓c_blockH, ↓then_nH, ↓then_rH, ↓then_eH, ↓block_nH, ↓block_rH, ↓block_eH, go_sem, q4.1, q4.2.1, q4.2.2, o22, get_w22]
          refine without_no s 21 hm hm9 _ _ ?_
          simp (maxSteps := 2000000) only [↓reduceIte, ↓c_condI, ↓c_seqH, ↓c_blockH, ↓then_nH, ↓then_rH, ↓then_eH, ↓block_nH, ↓block_rH, ↓block_eH, go_sem, hwp, staSV, mksSV]
          exact fin_no (l := [((p : Int) + 1, s)]) (hex _) (fun _ => rfl) (hno2 (lv_no hm))
      by_cases o27 : i.op = 27
      · simp only [o27, Int.reduceEq, or_false, false_or, or_true, true_or, if_true, if_false, reduceIte] at hno2 hyes
        simp (maxSteps := 2000000) only [↓reduceIte, ↓c_condI, ↓c_seqH, ↓c_blockH, ↓then_nH, ↓then_rH, ↓then_eH, ↓block_nH, ↓block_rH, ↓block_eH, go_sem, staSV, mksSV, q2.1, q2.2.1, q2.2.2, o27, hwp, hA, Int.reduceBEq]
        by_cases hm : ∃ m, s.marks.getLast? = some m ∧ m.1 = 26
        · simp (maxDischargeDepth := 60) only [put_app2 Tryz.amap100, intKeys_nil', intKeys_put', w_es]
          simp (maxSteps := 2000000) only [↓reduceIte, ↓c_condI, ↓c_seqH, ↓c_blockH, ↓then_nH, ↓then_rH, ↓then_eH, ↓block_nH, ↓block_rH, ↓block_eH, go_sem, q4.1, q4.2.1, q4.2.2, o27, get_w27]
          refine without_yes s 26 hm hm9 _ _ ?_
          simp (maxSteps := 2000000) only [↓reduceIte, ↓c_condI, ↓c_seqH, ↓c_blockH, ↓then_nH, ↓then_rH, ↓then_eH, ↓block_nH, ↓block_rH, ↓block_eH, go_sem, hwp, staSV, mksSV]
          exact fin_yes (l := [((p : Int) + 1, ⟨s.depth, s.marks.dropLast⟩)]) (hex _) (fun _ => rfl) (hyes _ (lv_yes hm) 3 (fun _ => rfl))
        · simp (maxDischargeDepth := 60) only [put_app2 Tryz.amap100, intKeys_nil', intKeys_put', w_es]
          simp (maxSteps := 2000000) only [↓reduceIte, ↓c_condI, ↓c_seqH, ↓c_blockH, ↓then_nH, ↓then_rH, ↓then_eH, ↓block_nH, ↓block_rH, ↓block_eH, go_sem, q4.1, q4.2.1, q4.2.2, o27, get_w27]
          refine without_no s 26 hm hm9 _ _ ?_
          simp (maxSteps := 2000000) only [↓reduceIte, ↓c_condI, ↓c_seqH, ↓c_blockH, ↓then_nH, ↓then_rH, ↓then_eH, ↓block_nH, ↓block_rH, ↓block_eH, go_sem, hwp, staSV, mksSV]
          exact fin_no (l := [((p : Int) + 1, s)]) (hex _) (fun _ => rfl) (hno2 (lv_no hm))
      by_cases o29 : i.op = 29
      · simp only [o29, Int.reduceEq, or_false, false_or, or_true, true_or, if_true, if_false, reduceIte] at hno2 hyes
        simp (maxSteps := 2000000) only [↓reduceIte, ↓c_condI, ↓c_seqH, ↓c_blockH, ↓then_nH, ↓then_rH, ↓then_eH, ↓block_nH, ↓block_rH, ↓block_eH, go_sem, staSV, mksSV, q2.1, q2.2.1, q2.2.2, o29, hwp, hA, Int.reduceBEq]
        by_cases hm : ∃ m, s.marks.getLast? = some m ∧ m.1 = 28
        · simp (maxDischargeDepth := 60) only [put_app2 Tryz.amap100, intKeys_nil', intKeys_put', w_es]
          simp (maxSteps := 2000000) only [↓reduceIte, ↓c_condI, ↓c_seqH, ↓c_blockH, ↓then_nH, ↓then_rH, ↓then_eH, ↓block_nH, ↓block_rH, ↓block_eH, go_sem, q4.1, q4.2.1, q4.2.2, o29, get_w29]
          refine without_yes s 28 hm hm9 _ _ ?_
          simp (maxSteps := 2000000) only [↓reduceIte, ↓c_condI, ↓c_seqH, ↓c_blockH, ↓then_nH, ↓then_rH, ↓then_eH, ↓block_nH, ↓block_rH, ↓block_eH, go_sem, hwp, staSV, mksSV]
          exact fin_yes (l := [((p : Int) + 1, ⟨s.depth, s.marks.dropLast⟩)]) (hex _) (fun _ => rfl) (hyes _ (lv_yes hm) 3 (fun _ => rfl))
        · simp (maxDischargeDepth := 60) only [put_app2 Tryz.amap100, intKeys_nil', intKeys_put', w_es]
          simp (maxSteps := 2000000) only [↓reduceIte, ↓c_condI, ↓c_seqH, ↓c_blockH, ↓then_nH, ↓then_rH, ↓then_eH, ↓block_nH, ↓block_rH, ↓block_eH, go_sem, q4.1, q4.2.1, q4.2.2, o29, get_w29]
          refine without_no s 28 hm hm9 _ _ ?_
          simp (maxSteps := 2000000) only [↓reduceIte, ↓c_condI, ↓c_seqH, ↓c_blockH, ↓then_nH, ↓then_rH, ↓then_eH, ↓block_nH, ↓block_rH, ↓block_eH, go_sem, hwp, staSV, mksSV]
          exact fin_no (l := [((p : Int) + 1, s)]) (hex _) (fun _ => rfl) (hno2 (lv_no hm))
      simp only [o14, o15, o23, o30, o16, o17, o18, o21, o28, o26, o22, o27, o29, or_self, if_false] at hno2 hyes
      have b14 : (i.op == 14) = false := by simp [o14]
      have b15 : (i.op == 15) = false := by simp [o15]
      have b23 : (i.op == 23) = false := by simp [o23]
      have b30 : (i.op == 30) = false := by simp [o30]
      have b16 : (i.op == 16) = false := by simp [o16]
      have b17 : (i.op == 17) = false := by simp [o17]
      have b18 : (i.op == 18) = false := by simp [o18]
      have b21 : (i.op == 21) = false := by simp [o21]
      have b28 : (i.op == 28) = false := by simp [o28]
      have b26 : (i.op == 26) = false := by simp [o26]
      have b22 : (i.op == 22) = false := by simp [o22]
      have b27 : (i.op == 27) = false := by simp [o27]
      have b29 : (i.op == 29) = false := by simp [o29]
      simp (maxSteps := 2000000) only [↓reduceIte, ↓c_condI, ↓c_seqH, ↓c_blockH, ↓then_nH, ↓then_rH, ↓then_eH, ↓block_nH, ↓block_rH, ↓block_eH, go_sem, staSV, mksSV, q2.1, q2.2.1, q2.2.2, hwp, b14, b15, b23, b30, b16, b17, b18, b21, b28, b26, b22, b27, b29]
      exact fin_yes (l := [((p : Int) + 1, t)]) (hex _) (fun _ => rfl) (hyes _ rfl 3 (fun _ => rfl))
  · cases hr
end
end Go.Proofs
