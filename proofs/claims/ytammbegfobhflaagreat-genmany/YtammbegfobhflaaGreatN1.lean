/- code.May; needs. -/
import Derived.Test.YtammbegfobhflaaGreatM5
set_option linter.all false
set_option linter.unusedSimpArgs false
set_option linter.unusedVariables false
set_option maxRecDepth 8000
namespace Go.AL
structure CdZ (m1 m2 m3 : AL.Mode) (z1 z2 z3 : Nat) (c : Cd) : Prop where
  f : c.funs ≠ [] → z1 = 4
  i : c.ints ≠ [] → z2 = 1
  t : c.texts ≠ [] → z3 = 1
end Go.AL
namespace Go.Proofs
open Go Go.AL
set_option maxHeartbeats 4000000 in
theorem may_c {m1 m2 m3 : AL.Mode} {z1 z2 z3 : Nat} (c : Cd) (hz : CdZ m1 m2 m3 z1 z2 z3 c) (K : SV → St → Prop) (st : St) (h : K (.sc (.bool (mayF c))) st) : ACalls Tryz.prog 27 [.agg (cdCells m1 m2 m3 z1 z2 z3 c)] K st := by
  unfold mayF at h
  cases s1 : inB c.funs.length 1 120 with
  | false =>
    rw [s1] at h
    refine acalls_go_pure [] Tryz.func27 rfl Tryz.results27 Tryz.ntmps27 ?_
    simp only [go_sem, cdCells, List.length_map]
    refine in_c _ _ _ _ _ ?_
    simp only [go_sem, s1]
    exact ⟨⟨[], by simp⟩, .sc _, h⟩
  | true =>
  rw [s1] at h
  by_cases s2 : c.ints.length ≤ 120
  case neg =>
    have d2 : ((c.ints.length : Int) ≤ 120) = False := eq_false (by omega)
    simp only [s2, decide_false] at h
    refine acalls_go_pure [] Tryz.func27 rfl Tryz.results27 Tryz.ntmps27 ?_
    simp only [go_sem, cdCells, List.length_map]
    refine in_c _ _ _ _ _ ?_
    simp only [go_sem, s1, d2, List.length_map]
    exact ⟨⟨[], by simp⟩, .sc _, h⟩
  have d2 : ((c.ints.length : Int) ≤ 120) = True := eq_true (by omega)
  by_cases s3 : c.texts.length ≤ 120
  case neg =>
    have d3 : ((c.texts.length : Int) ≤ 120) = False := eq_false (by omega)
    simp only [s2, s3, decide_false, decide_true] at h
    refine acalls_go_pure [] Tryz.func27 rfl Tryz.results27 Tryz.ntmps27 ?_
    simp only [go_sem, cdCells, List.length_map]
    refine in_c _ _ _ _ _ ?_
    simp only [go_sem, s1, d2, d3, List.length_map]
    exact ⟨⟨[], by simp⟩, .sc _, h⟩
  have d3 : ((c.texts.length : Int) ≤ 120) = True := eq_true (by omega)
  simp only [s2, s3, decide_true] at h
  cases s4 : inB c.lets 0 60 with
  | false =>
    rw [s4] at h
    refine acalls_go_pure [] Tryz.func27 rfl Tryz.results27 Tryz.ntmps27 ?_
    simp only [go_sem, cdCells, List.length_map]
    refine in_c _ _ _ _ _ ?_
    simp only [go_sem, s1, d2, d3, List.length_map]
    refine in_c _ _ _ _ _ ?_
    simp only [go_sem, s1, d2, d3, s4, List.length_map]
    exact ⟨⟨[], by simp⟩, .sc _, h⟩
  | true =>
  rw [s4] at h
  have hfl := (inB_le s1).2
  have hf : c.funs.length ≤ 1000000 := by omega
  have n1 := any_not_all bodyB c.funs
  have n2 := any_not_all (fun n => inB n (-4611686018427387904) 4611686018427387903) c.ints
  have n3 := any_not_all (fun s : ByteArray => decide (s.size ≤ 60)) c.texts
  cases w1 : c.funs.all bodyB with
  | false =>
    rw [w1] at h n1
    refine acalls_go_pure [] Tryz.func27 rfl Tryz.results27 Tryz.ntmps27 ?_
    simp only [go_sem, cdCells, List.length_map]
    refine in_c _ _ _ _ _ ?_
    simp only [go_sem, s1, d2, d3, List.length_map]
    refine in_c _ _ _ _ _ ?_
    simp only [go_sem, s1, d2, d3, s4, List.length_map]
    refine containsF43_c bdSV (fun f => !bodyB f) _ c.funs _ hz.f 55 [] (by kernel_rfl) Tryz.cell_bd hf _ (fun f _ K hk => wrong_c f K _ hk) _ ?_
    simp only [go_sem, s1, d2, d3, s4, n1, List.length_map]
    exact ⟨⟨[], by simp⟩, .sc _, h⟩
  | true =>
  rw [w1] at h n1
  cases w2 : c.ints.all (fun n => inB n (-4611686018427387904) 4611686018427387903) with
  | false =>
    rw [w2] at h n2
    refine acalls_go_pure [] Tryz.func27 rfl Tryz.results27 Tryz.ntmps27 ?_
    simp only [go_sem, cdCells, List.length_map]
    refine in_c _ _ _ _ _ ?_
    simp only [go_sem, s1, d2, d3, List.length_map]
    refine in_c _ _ _ _ _ ?_
    simp only [go_sem, s1, d2, d3, s4, List.length_map]
    refine containsF43_c bdSV (fun f => !bodyB f) _ c.funs _ hz.f 55 [] (by kernel_rfl) Tryz.cell_bd hf _ (fun f _ K hk => wrong_c f K _ hk) _ ?_
    simp only [go_sem, s1, d2, d3, s4, n1, List.length_map]
    refine containsF45_c i64 (fun n => !inB n (-4611686018427387904) 4611686018427387903) _ c.ints _ hz.i 57 [] (by kernel_rfl) Tryz.cell_i (by omega) _ (fun f _ K hk => int_bad_c f K _ hk) _ ?_
    simp only [go_sem, s1, d2, d3, s4, n1, n2, List.length_map]
    exact ⟨⟨[], by simp⟩, .sc _, h⟩
  | true =>
  rw [w2] at h n2
  refine acalls_go_pure [] Tryz.func27 rfl Tryz.results27 Tryz.ntmps27 ?_
  simp only [go_sem, cdCells, List.length_map]
  refine in_c _ _ _ _ _ ?_
  simp only [go_sem, s1, d2, d3, List.length_map]
  refine in_c _ _ _ _ _ ?_
  simp only [go_sem, s1, d2, d3, s4, List.length_map]
  refine containsF43_c bdSV (fun f => !bodyB f) _ c.funs _ hz.f 55 [] (by kernel_rfl) Tryz.cell_bd hf _ (fun f _ K hk => wrong_c f K _ hk) _ ?_
  simp only [go_sem, s1, d2, d3, s4, n1, List.length_map]
  refine containsF45_c i64 (fun n => !inB n (-4611686018427387904) 4611686018427387903) _ c.ints _ hz.i 57 [] (by kernel_rfl) Tryz.cell_i (by omega) _ (fun f _ K hk => int_bad_c f K _ hk) _ ?_
  simp only [go_sem, s1, d2, d3, s4, n1, n2, List.length_map]
  refine containsF47_c str (fun s : ByteArray => !decide (s.size ≤ 60)) _ c.texts _ hz.t 59 [] (by kernel_rfl) Tryz.cell_s (by omega) _ (fun f _ K hk => text_bad_c f K _ hk) _ ?_
  simp only [go_sem, s1, d2, d3, s4, n1, n2, n3, List.length_map]
  simp only [Bool.true_and] at h
  refine ⟨⟨[], by simp⟩, .sc _, ?_⟩
  show K (.sc (.bool (!!_))) st
  rw [Bool.not_not]
  exact h
end Go.Proofs
set_option linter.unusedSimpArgs false
set_option linter.unusedVariables false
set_option maxRecDepth 8000
namespace Go.AL
def apartL : List Int := [10, 15, 11, 12, 13, 21, 19]
theorem apart_any (k : Int) : apartL.any (· == k) = apartB k := by
  unfold apartL apartB
  simp only [List.any_cons, List.any_nil, Bool.or_false]
  have e : ∀ n : Int, (n == k) = (k == n) := fun n => by rw [Bool.eq_iff_iff, beq_iff_eq, beq_iff_eq]; exact ⟨Eq.symm, Eq.symm⟩
  rw [e, e, e, e, e, e, e]
  simp [Bool.or_assoc]
theorem if_max (a b : Int) : (if a < b then b else a) = max a b := by
  by_cases h : a < b
  · rw [if_pos h, Int.max_eq_right (by omega)]
  · rw [if_neg h, Int.max_eq_left (by omega)]
theorem if_max' (a b : Int) : (if b > a then b else a) = max a b := if_max a b
theorem needsL_cons (f : Co → Int) (ap : Bool) (i : Nat) (k : Co) (r : List Co) (n : Int) : needsL f ap i (k :: r) n = needsL f ap (i + 1) r (max n ((if ap then 0 else (i : Int)) + f k)) := rfl
theorem needsL_bnd {f : Co → Int} {ap : Bool} {B : Int} : ∀ (l : List Co) (i : Nat) (n : Int), (∀ k ∈ l, 0 ≤ f k ∧ f k ≤ B) → i + l.length ≤ 1000 → 1 ≤ n → n ≤ B + 1000 → 1 ≤ needsL f ap i l n ∧ needsL f ap i l n ≤ B + 1000
  | [], i, n, _, _, h1, h2 => ⟨h1, h2⟩
  | k :: r, i, n, h, hi, h1, h2 => by
    rw [needsL_cons]
    have hk := h k List.mem_cons_self
    simp only [List.length_cons] at hi
    refine needsL_bnd r (i + 1) _ (fun x hx => h x (List.mem_cons_of_mem _ hx)) (by omega) ?_ ?_
    · cases ap <;> simp <;> omega
    · cases ap <;> simp <;> omega
theorem needs_bnd : ∀ (d : Nat) (c : Co), fitC d c → 1 ≤ needsG d c ∧ needsG d c ≤ 1000 * (d : Int)
  | 0, c, h => h.elim
  | d + 1, c, h => by
    obtain ⟨⟨hb, _⟩, hk, _⟩ := h
    have := needsL_bnd (f := needsG d) (ap := apartB c.kind) (B := 1000 * (d : Int)) c.kids 0 1 (fun k hk' => by have := needs_bnd d k (hk k hk'); exact ⟨by omega, this.2⟩) (by omega) (by omega) (by omega)
    unfold needsG
    refine ⟨this.1, ?_⟩
    have := this.2
    omega
end Go.AL
namespace Go.Proofs
open Go Go.AL
theorem idxI_any (n : Int) (l : List Int) : decide ((0 : Int) ≤ Go.Proofs.idxI n l) = l.any (· == n) := idxA_any (fun x => x == n) l
theorem containsI_c (m : AL.Mode) (n : Int) (l : List Int) (hl : l.length ≤ 1000000) (K : SV → St → Prop) (st : St) (h : K (.sc (.bool (l.any (· == n)))) st) : ACalls Tryz.prog 25 [.slice m 1 (l.map i64), i64 n] K st := by
  refine acalls_go_pure [] Tryz.func25 rfl Tryz.results25 Tryz.ntmps25 ?_
  simp only [go_sem]
  refine indexI_c m n l hl _ _ ?_
  simp only [go_sem, idxI_any]
  exact ⟨⟨[], by simp⟩, .sc _, h⟩
set_option maxHeartbeats 4000000 in
theorem needs_c : ∀ (d : Nat), d ≤ 100000 → ∀ (c : Co), fitC d c → ∀ (K : SV → St → Prop) (st : St), K (i64 (needsG d c)) st → ACalls Tryz.prog 9 [coSV c] K st := by
  intro d
  induction d with
  | zero => intro _ c h; exact h.elim
  | succ d ih =>
    intro hd c hfit K st h
    have ih := ih (by omega)
    obtain ⟨⟨hb, _⟩, hk, _⟩ := hfit
    obtain ⟨ap, hap⟩ : ∃ ap, apartB c.kind = ap := ⟨_, rfl⟩
    have hany : ([10, 15, 11, 12, 13, 21, 19] : List Int).any (· == c.kind) = ap := (apart_any c.kind).trans hap
    unfold needsG at h
    rw [hap] at h
    obtain ⟨F, hF⟩ : ∃ F, needsL (needsG d) ap 0 c.kids 1 = F := ⟨_, rfl⟩
    rw [hF] at h
    have hbn : ∀ k ∈ c.kids, 1 ≤ needsG d k ∧ needsG d k ≤ 1000 * (d : Int) := fun k hk' => needs_bnd d k (hk k hk')
    refine acalls_go_pure [] Tryz.func9 rfl Tryz.results9 Tryz.ntmps9 ?_
    rw [coSV_eq]
    simp only [go_sem]
    refine containsI_c _ c.kind [10, 15, 11, 12, 13, 21, 19] (by decide) _ _ ?_
    rw [hany]
    simp only [go_sem, List.length_map]
    refine awp_rounds [] (fun b e s => ∃ k n ex, k + b = c.kids.length ∧ needsL (needsG d) ap k (c.kids.drop k) n = F ∧ 1 ≤ n ∧ n ≤ 1000 * (d : Int) + 1000 ∧ e = [.any, .any, .any, .sc (.bool ap), i64 n, .any, .any, .any, .any, .any, .any, .any, .slice .imm 9 (c.kids.map coSV), i64 c.kids.length, i64 k, .any, .any, .any, .any, .any, .any, .any, .any, .any, .any, .any, .any, .any] ∧ s = st ++ ex) (n := c.kids.length) ?_ ⟨0, 1, [], by omega, hF, by omega, by omega, rfl, by simp⟩ ?_
    · repeat (first | exact leEnv_nil | refine leEnv_any _ ?_ | refine leEnv_same _ ?_ | refine leEnv_norm _ ?_)
    rintro b e s ⟨k, n, ex, hkb, hrest, hn1, hn2, rfl, rfl⟩
    by_cases hlt : k < c.kids.length
    · have c1 : (k : Int) < (c.kids.length : Int) := by omega
      have hw : IntKind.i64.wrap ((k : Int) + 1) = ((k + 1 : Nat) : Int) := by rw [IntWalk.i64_in _ (by omega)]; rfl
      have hgt : (c.kids.map coSV).getD k .any = coSV c.kids[k] := by simp [List.getD_eq_getElem?_getD, hlt]
      have hdr : c.kids.drop k = c.kids[k] :: c.kids.drop (k + 1) := List.drop_eq_getElem_cons hlt
      rw [hdr, needsL_cons] at hrest
      have hmem := List.getElem_mem hlt
      have hbk := hbn _ hmem
      have hfk := hk _ hmem
      generalize c.kids[k] = ck at *
      have hwa : IntKind.i64.wrap ((if ap then 0 else (k : Int)) + needsG d ck) = (if ap then 0 else (k : Int)) + needsG d ck := IntWalk.i64_in _ (by cases ap <;> simp <;> omega)
      have hm1 : 1 ≤ max n ((if ap then 0 else (k : Int)) + needsG d ck) := by omega
      have hm2 : max n ((if ap then 0 else (k : Int)) + needsG d ck) ≤ 1000 * (d : Int) + 1000 := by cases ap <;> simp <;> omega
      cases ap
      · simp only [Bool.false_eq_true, if_false] at hwa hrest hm1 hm2
        simp only [go_sem, c1, hgt]
        refine ih ck hfk _ _ ?_
        simp only [go_sem, hw, hwa, if_max']
        refine ⟨b - 1, _, by omega, ?_, k + 1, _, _, by omega, hrest, hm1, hm2, rfl, rfl⟩
        repeat (first | exact leEnv_nil | refine leEnv_any _ ?_ | refine leEnv_same _ ?_ | refine leEnv_norm _ ?_)
      · simp only [if_true] at hwa hrest hm1 hm2
        simp only [go_sem, c1, hgt]
        refine ih ck hfk _ _ ?_
        simp only [go_sem, hw, hwa, if_max']
        refine ⟨b - 1, _, by omega, ?_, k + 1, _, _, by omega, hrest, hm1, hm2, rfl, rfl⟩
        repeat (first | exact leEnv_nil | refine leEnv_any _ ?_ | refine leEnv_same _ ?_ | refine leEnv_norm _ ?_)
    · obtain rfl : k = c.kids.length := by omega
      have c1 : ((c.kids.length : Int) < (c.kids.length : Int)) = False := eq_false (by omega)
      have e : n = F := by
        rw [List.drop_length] at hrest; exact hrest
      rw [← e] at h
      simp only [go_sem, c1]
      exact ⟨⟨_, rfl⟩, .sc _, h⟩
end Go.Proofs
set_option linter.unusedSimpArgs false
set_option linter.unusedVariables false
set_option maxRecDepth 8000
namespace Go.AL
def mkSV (m : Int × Int) : SV := .agg [i64 m.1, i64 m.2]
def mksSV (l : List (Int × Int)) : SV := .slice .imm 2 (l.map mkSV)
def staSV (s : Sta) : SV := .agg [i64 s.depth, mksSV s.marks]
def tgSV (t : Int × Sta) : SV := .agg [i64 t.1, i64 t.2.depth, mksSV t.2.marks]
theorem ids_mks (n : Nat) (m : AL.Mode) (hm : m = .imm ∨ m = .full) (l : List (Int × Int)) : Ids n (.slice m 2 (l.map mkSV)) := by
  refine ids_slice hm fun x hx y hy => ?_
  obtain ⟨a, _, rfl⟩ := List.mem_map.1 hx
  simp only [mkSV, SV.cells, List.mem_cons, List.not_mem_nil, or_false] at hy
  rcases hy with rfl | rfl <;> exact .sc _
theorem ids_sta (n : Nat) (s : Sta) : Ids n (staSV s) := by
  simp only [staSV, ids_agg, List.forall_mem_cons, ids_sc, true_and]
  exact ⟨ids_mks n _ (.inl rfl) _, fun x hx => by cases hx⟩
theorem cellsOf_mk {P : Program} {t : TypeId} (i : Int × Int) (h1 : aAgg P t = some true) (h2 : aSize P t = some 2) : cellsOf P t (mkSV i).cells = some (mkSV i) := by
  simp [cellsOf, h1, h2, SV.cells, mkSV]
theorem last_at {α : Type} {l : List α} (h : l ≠ []) : l.getLast? = some (l[l.length - 1]'(by have := List.length_pos_iff.2 h; omega)) := by
  rw [List.getLast?_eq_getElem?, List.getElem?_eq_getElem]
end Go.AL
namespace Go.Proofs
open Go Go.AL
theorem Tryz.app105 {n : Nat} (h : n ≤ 1000000) : AppOk Tryz.prog 108 108 2 n := appOk_of Tryz.aelem108 Tryz.aelem108 Tryz.asize145 Tryz.azero145 rfl Tryz.abytes145 (by omega) h
theorem base_c (s : Sta) (hl : s.marks.length ≤ 100000) (K : SV → St → Prop) (st : St) (h : K (i64 (baseF s)) st) : ACalls Tryz.prog 77 [staSV s] K st := by
  unfold baseF at h
  by_cases hm : s.marks = []
  · rw [hm] at h
    refine acalls_go_pure [] Tryz.func77 rfl Tryz.results77 Tryz.ntmps77 ?_
    simp only [go_sem, staSV, mksSV, hm, List.map_nil, List.length_nil, n0]
    exact ⟨⟨[], by simp⟩, .sc _, h⟩
  · have hpos := List.length_pos_iff.2 hm
    rw [last_at hm] at h
    have c1 : (0 : Int) < (s.marks.length : Int) := by omega
    have hw : IntKind.i64.wrap ((s.marks.length : Int) - 1) = ((s.marks.length - 1 : Nat) : Int) := by rw [IntWalk.i64_in _ (by omega)]; omega
    have c2 : ((s.marks.length - 1 : Nat) : Int) < (s.marks.length : Int) := by omega
    have hg : (s.marks.map mkSV).getD (s.marks.length - 1) .any = mkSV (s.marks[s.marks.length - 1]'(by omega)) := by simp [List.getD_eq_getElem?_getD, show s.marks.length - 1 < s.marks.length by omega]
    refine acalls_go_pure [] Tryz.func77 rfl Tryz.results77 Tryz.ntmps77 ?_
    simp only [go_sem, staSV, mksSV, List.length_map, c1, hw, c2, hg, mkSV]
    exact ⟨⟨[], by simp⟩, .sc _, h⟩
theorem moved_c (s : Sta) (n : Int) (hd : -100000 ≤ s.depth ∧ s.depth ≤ 100000) (hn : -100000 ≤ n ∧ n ≤ 100000) (K : SV → St → Prop) (st : St) (h : K (staSV ⟨s.depth + n, s.marks⟩) st) : ACalls Tryz.prog 78 [staSV s, i64 n] K st := by
  have hw : IntKind.i64.wrap (s.depth + n) = s.depth + n := IntWalk.i64_in _ (by omega)
  refine acalls_go_pure [2] Tryz.func78 rfl Tryz.results78 Tryz.ntmps78 ?_
  simp only [go_sem, staSV, mksSV, hw]
  exact ⟨⟨_, rfl⟩, ids_sta _ ⟨s.depth + n, s.marks⟩, h⟩
set_option maxHeartbeats 4000000 in
theorem with_c (s : Sta) (k : Int) (hl : s.marks.length ≤ 100000) (K : SV → St → Prop) (st : St) (h : K (staSV (withF s k)) st) : ACalls Tryz.prog 79 [staSV s, i64 k] K st := by
  have happ := Tryz.app105 (n := s.marks.length + 1) (by omega)
  have htk : (s.marks.map mkSV).take s.marks.length = s.marks.map mkSV := List.take_of_length_le (by simp)
  refine acalls_go_pure [2] Tryz.func79 rfl Tryz.results79 Tryz.ntmps79 ?_
  simp only [go_sem, staSV, mksSV]
  refine awp_drawW [] [(0, []), (0, []), (0, []), (0, []), (0, []), (0, []), (0, []), (0, []), (0, []), (0, []), (0, []), (0, []), (0, []), (0, []), (3, [16]), (0, []), (1, [17])] Tryz.mixed rfl ?_
  simp only [go_sem, drawW_n, drawW_0, drawW_1, drawW_2, drawW_3, pend_n, pend_c, headD_c, isStore_s, List.length_map, htk]
  refine ⟨by omega, ?_⟩
  rw [dk_eff]
  refine ⟨mkSV (k, s.depth), ?_, ?_⟩
  · simp only [go_sem]
    have e : Ids st.length (mkSV (k, s.depth)) := by
      simp only [mkSV, ids_agg, List.forall_mem_cons, ids_sc, true_and]
      exact fun x hx => by cases hx
    refine ⟨⟨[], by simp⟩, ?_, .inl rfl⟩
    exact e.mono (by simp)
  try simp only [go_sem, drawW_n, drawW_0, drawW_1, drawW_2, drawW_3, pend_n, pend_c, headD_c, isStore_s]
  rw [dk_eff]
  refine ⟨.slice .full 2 [mkSV (k, s.depth)], ?_, ?_⟩
  · simp only [go_sem, mkSV]
    exact ⟨⟨[], by simp⟩, ids_mks _ _ (.inr rfl) [(k, s.depth)], .inl rfl⟩
  simp only [go_sem, drawW_n, drawW_0, drawW_1, drawW_2, drawW_3, pend_n, pend_c, headD_c, isStore_s, List.length_map]
  refine ⟨_, _, ⟨happ, rfl, rfl⟩, ?_⟩
  simp only [go_sem, drawW_n, drawW_0, drawW_1, drawW_2, drawW_3, pend_n, pend_c, headD_c, isStore_s, List.length_map]
  have e : (withF s k).marks.map mkSV = s.marks.map mkSV ++ [mkSV (k, s.depth)] := by simp [withF]
  refine ⟨⟨_, rfl⟩, ?_, ?_⟩
  · have := ids_sta st.length (withF s k)
    unfold staSV mksSV at this
    rw [e] at this
    exact this
  · unfold staSV mksSV at h
    rw [e] at h
    exact h
set_option maxHeartbeats 4000000 in
theorem without_c (s : Sta) (k : Int) (hl : s.marks.length ≤ 100000) (K : SV → St → Prop) (st : St)
    (h : K (match s.marks.getLast? with | none => .tuple [staSV s, .sc (.bool false)] | some m => if m.1 = k then .tuple [staSV ⟨s.depth, s.marks.dropLast⟩, .sc (.bool true)] else .tuple [staSV s, .sc (.bool false)]) st) : ACalls Tryz.prog 82 [staSV s, i64 k] K st := by
  have key : ∀ (t : Sta) (b : Bool), K (.tuple [staSV t, .sc (.bool b)]) st → ∀ ex, FinK st K (.tuple [staSV t, .sc (.bool b)]) (st ++ ex) := by
    intro t b hk ex
    refine ⟨⟨ex, rfl⟩, ?_, hk⟩
    refine .tuple _ fun i hi => ?_
    match i, hi with
    | 0, _ => exact ids_sta _ t
    | 1, _ => exact .sc _
  by_cases hm : s.marks = []
  · rw [hm] at h
    have c0 : ((-1 : Int) < 0) = True := eq_true (by omega)
    have hw0 : IntKind.i64.wrap ((0 : Int) - 1) = -1 := IntWalk.i64_in _ (by omega)
    refine acalls_go_pure [2, 4] Tryz.func82 rfl Tryz.results82 Tryz.ntmps82 ?_
    simp only [go_sem, staSV, mksSV, hm, List.map_nil, List.length_nil, n0, hw0, c0]
    have := key s false h
    unfold staSV mksSV at this
    rw [hm] at this
    exact this _
  · have hpos := List.length_pos_iff.2 hm
    rw [last_at hm] at h
    have hw : IntKind.i64.wrap ((s.marks.length : Int) - 1) = ((s.marks.length - 1 : Nat) : Int) := by rw [IntWalk.i64_in _ (by omega)]; omega
    have c1 : (((s.marks.length - 1 : Nat) : Int) < 0) = False := eq_false (by omega)
    have c2 : ((s.marks.length - 1 : Nat) : Int) < (s.marks.length : Int) := by omega
    have c3 : ((s.marks.length - 1 : Nat) : Int) ≤ (s.marks.length : Int) := by omega
    have hg : (s.marks.map mkSV).getD (s.marks.length - 1) .any = mkSV (s.marks[s.marks.length - 1]'(by omega)) := by simp [List.getD_eq_getElem?_getD, show s.marks.length - 1 < s.marks.length by omega]
    have htk : (s.marks.map mkSV).take (s.marks.length - 1) = s.marks.dropLast.map mkSV := by rw [List.dropLast_eq_take, List.map_take]
    obtain ⟨m, hmm⟩ : ∃ m, s.marks[s.marks.length - 1]'(by omega) = m := ⟨_, rfl⟩
    rw [hmm] at hg
    simp only [hmm] at h
    by_cases hk : m.1 = k
    · have b : (m.1 != k) = false := by simp [hk]
      rw [if_pos hk] at h
      refine acalls_go_pure [2, 4] Tryz.func82 rfl Tryz.results82 Tryz.ntmps82 ?_
      simp only [go_sem, staSV, mksSV, List.length_map, hw, c1, c2, c3, hg, mkSV, b, htk]
      exact ⟨by omega, key _ true h _⟩
    · have b : (m.1 != k) = true := by simp [hk]
      rw [if_neg hk] at h
      refine acalls_go_pure [2, 4] Tryz.func82 rfl Tryz.results82 Tryz.ntmps82 ?_
      simp only [go_sem, staSV, mksSV, List.length_map, hw, c1, c2, c3, hg, mkSV, b]
      exact key _ false h _
/-! same. -/
theorem eqs_mk (a b : Int × Int) : svsEq [i64 a.1, i64 a.2] [i64 b.1, i64 b.2] = decide (a = b) := by
  obtain ⟨a1, a2⟩ := a
  obtain ⟨b1, b2⟩ := b
  simp only [svsEq, svEq]
  rw [Bool.eq_iff_iff]
  simp
theorem eq138 (a b c d : Int) : aggEqOk Tryz.prog 145 [i64 a, i64 b] [i64 c, i64 d] := by
  refine ⟨by kernel_rfl, by kernel_rfl, by kernel_rfl, ?_⟩
  have h3 : Tryz.prog.underlying 3 = some (.int .i64) := Tryz.underlying3
  simp only [Program.fieldsOf, Tryz.underlying145]
  refine ⟨⟨by decide, rfl, Tryz.aagg3, rfl, h3⟩, ⟨by decide, rfl, Tryz.aagg3, rfl, h3⟩, trivial⟩
set_option maxHeartbeats 4000000 in
theorem equal_c (a b : List (Int × Int)) (ha : a.length ≤ 100000) (hb : b.length ≤ 100000) (K : SV → St → Prop) (st : St) (h : K (.sc (.bool (decide (a = b)))) st) : ACalls Tryz.prog 83 [mksSV a, mksSV b] K st := by
  by_cases hl : a.length = b.length
  · have c0 : ((a.length : Int) != (b.length : Int)) = false := by simp [hl]
    refine acalls_go_pure [] Tryz.func83 rfl Tryz.results83 Tryz.ntmps83 ?_
    simp only [go_sem, mksSV, List.length_map, c0]
    refine awp_rounds [] (fun q e s => ∃ k, k + q = a.length ∧ a.take k = b.take k ∧ e = [.slice .imm 2 (a.map mkSV), .slice .imm 2 (b.map mkSV), .any, .any, .any, .any, .any, .any, .any, .any, .any, .any, i64 a.length, i64 k, .any, .any, .any, .any, .any, .any, .any, .any, .any, .any, .any, .any] ∧ s = st) (n := a.length) ?_ ⟨0, by omega, rfl, rfl, rfl⟩ ?_
    · repeat (first | exact leEnv_nil | refine leEnv_any _ ?_ | refine leEnv_same _ ?_ | refine leEnv_norm _ ?_)
    rintro q e s ⟨k, hk, htk, rfl, rfl⟩
    by_cases hlt : k < a.length
    · have c1 : (k : Int) < (a.length : Int) := by omega
      have c2 : (k : Int) < (b.length : Int) := by omega
      have hlb : k < b.length := by omega
      have hw : IntKind.i64.wrap ((k : Int) + 1) = ((k + 1 : Nat) : Int) := by rw [IntWalk.i64_in _ (by omega)]; rfl
      have g1 : (a.map mkSV).getD k .any = mkSV a[k] := by simp [List.getD_eq_getElem?_getD, hlt]
      have g2 : (b.map mkSV).getD k .any = mkSV b[k] := by simp [List.getD_eq_getElem?_getD, hlb]
      simp only [go_sem, c1]
      refine awp_drawW [] [(0, []), (0, []), (0, []), (0, []), (0, []), (0, []), (0, []), (0, []), (0, [])] Tryz.mixed rfl ?_
      simp only [go_sem, drawW_n, drawW_0, drawW_1, drawW_2, drawW_3, pend_n, pend_c, headD_c, isStore_s, List.length_map, c1, c2, g1, g2, mkSV]
      have hq : svsEq [i64 a[k].1, i64 a[k].2] [i64 b[k].1, i64 b[k].2] = decide (a[k] = b[k]) := eqs_mk _ _
      rw [hq]
      refine ⟨eq138 _ _ _ _, fun hc => ?_, fun hc => ?_⟩
      · have hne : a ≠ b := by
          rintro rfl
          simp at hc
        rw [decide_eq_false hne] at h
        exact ⟨⟨[], by simp⟩, .sc _, h⟩
      · have he : a[k] = b[k] := by simpa using hc
        rw [hw]
        refine ⟨q - 1, _, by omega, ?_, k + 1, by omega, ?_, rfl⟩
        · repeat (first | exact leEnv_nil | refine leEnv_any _ ?_ | refine leEnv_same _ ?_ | refine leEnv_norm _ ?_)
        · rw [List.take_succ_eq_append_getElem hlt, List.take_succ_eq_append_getElem hlb, htk, he]
    · obtain rfl : k = a.length := by omega
      have c1 : ((a.length : Int) < (a.length : Int)) = False := eq_false (by omega)
      have he : a = b := by
        rw [List.take_length] at htk
        rw [htk, hl, List.take_length]
      rw [decide_eq_true he] at h
      simp only [go_sem, c1]
      exact ⟨⟨[], by simp⟩, .sc _, h⟩
  · have c0 : ((a.length : Int) != (b.length : Int)) = true := by simp; omega
    have hne : a ≠ b := fun e => hl (by rw [e])
    rw [decide_eq_false hne] at h
    refine acalls_go_pure [] Tryz.func83 rfl Tryz.results83 Tryz.ntmps83 ?_
    simp only [go_sem, mksSV, List.length_map, c0]
    exact ⟨⟨[], by simp⟩, .sc _, h⟩
theorem same_c (a b : Sta) (ha : a.marks.length ≤ 100000) (hb : b.marks.length ≤ 100000) (K : SV → St → Prop) (st : St) (h : K (.sc (.bool (decide (a = b)))) st) : ACalls Tryz.prog 61 [staSV a, staSV b] K st := by
  by_cases e : a.depth = b.depth
  · have c1 : (a.depth == b.depth) = true := by simp [e]
    have e2 : decide (a = b) = decide (a.marks = b.marks) := by
      cases a; cases b
      simp only at e
      subst e
      simp
    rw [e2] at h
    refine acalls_go_pure [] Tryz.func61 rfl Tryz.results61 Tryz.ntmps61 ?_
    simp only [go_sem, staSV, c1]
    refine equal_c a.marks b.marks ha hb _ _ ?_
    simp only [go_sem, c1]
    exact ⟨⟨[], by simp⟩, .sc _, h⟩
  · have c1 : (a.depth == b.depth) = false := by simp [e]
    have hne : a ≠ b := fun h => e (by rw [h])
    rw [decide_eq_false hne] at h
    refine acalls_go_pure [] Tryz.func61 rfl Tryz.results61 Tryz.ntmps61 ?_
    simp only [go_sem, staSV, c1]
    exact ⟨⟨[], by simp⟩, .sc _, h⟩
end Go.Proofs
