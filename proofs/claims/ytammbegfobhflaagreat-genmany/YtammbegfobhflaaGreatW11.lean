/- exp. -/
import Derived.Test.YtammbegfobhflaaGreatW10
set_option linter.all false
set_option linter.unusedSimpArgs false
set_option linter.unusedVariables false
set_option maxRecDepth 8000
namespace Go.AL
def deepK (k : Int) : Prop := k = 10 ∨ k = 15 ∨ k = 11 ∨ k = 12 ∨ k = 13 ∨ k = 21 ∨ k = 19
/-- Is a core so deep at most? -/
def fitC : Nat → Co → Prop
  | 0, _ => False
  | d + 1, c => (c.kids.length ≤ 1000 ∧ c.binds.length ≤ 1000 ∧ ∀ l ∈ c.binds, l.length ≤ 100000 ∧ ∀ b ∈ l, b.path.length ≤ 100000) ∧ (∀ k ∈ c.kids, fitC d k) ∧ (deepK c.kind → 0 < d)
theorem fit_no : ∀ d : Nat, 0 < d → fitC d noC
  | d + 1, _ => ⟨⟨by simp [noC, Co.kids], by simp [noC, Co.binds], fun l hl => (by cases hl)⟩, fun k hk => (by cases hk), fun h => by
    unfold deepK at h
    have e : noC.kind = 0 := rfl
    rw [e] at h
    omega⟩
theorem fit_kid {d : Nat} {c : Co} (h : fitC (d + 1) c) (hk : deepK c.kind) (i : Nat) : fitC d (kidC c i) := by
  unfold kidC
  by_cases hlt : i < c.kids.length
  · rw [List.getD_eq_getElem?_getD, List.getElem?_eq_getElem hlt]
    exact h.2.1 _ (List.getElem_mem hlt)
  · rw [List.getD_eq_getElem?_getD, List.getElem?_eq_none (Nat.not_lt.1 hlt)]
    exact fit_no d (h.2.2 hk)
theorem readers_get (k : Int) : getOr readersEs (.sc .nilFunc) k = if k = 10 then (.func (.func 41) [] [], true) else if k = 15 then (.func (.func 42) [] [], true) else if k = 11 then (.func (.func 43) [] [], true) else if k = 12 then (.func (.func 44) [] [], true)
    else if k = 9 then (.func (.func 45) [] [], true) else (.sc .nilFunc, false) := by
  unfold getOr keyIdx readersEs
  simp only [List.findIdx?_cons, List.findIdx?_nil, keyEq_int]
  by_cases h1 : k = 10
  · subst h1; rfl
  by_cases h2 : k = 15
  · subst h2; rfl
  by_cases h3 : k = 11
  · subst h3; rfl
  by_cases h4 : k = 12
  · subst h4; rfl
  by_cases h5 : k = 9
  · subst h5; rfl
  simp [h1, h2, h3, h4, h5]
end Go.AL
namespace Go.Proofs
open Go Go.AL
@[go_sem] theorem Tryz.aif66 : aIsFunc Tryz.prog 66 = true := by kernel_rfl
theorem Tryz.zero69 : zeroSV Tryz.prog 66 = some (.sc .nilFunc) := by kernel_rfl
theorem get_reader {T : St} (k : Int) : mapGet Tryz.prog 67 (T ++ [.map readersEs]) (.mp T.length) (i64 k) = some (getOr readersEs (.sc .nilFunc) k) :=
  mapGet_int Tryz.amap67 Tryz.zero69 (by simp [mapAt]) readers_int
set_option maxHeartbeats 8000000 in
theorem exp_step {d : Nat} (hE : HasE (fitC d) (expG d)) : HasE (fitC (d + 1)) (expG (d + 1)) := by
  intro s L g v hA c last hfit hg K h
  have hF := gd_exp d
  obtain ⟨hb1, hkids, hdeep⟩ := hfit
  have hkid := fit_kid ⟨hb1, hkids, hdeep⟩
  obtain ⟨⟨w1, w2, w3⟩, ⟨p1, p2, p3⟩, ⟨a1, a2, a3, a4⟩, -, -⟩ := hA.facts
  unfold expG at h
  rw [coSV_eq]
  refine acalls_go_mod [] Tryz.func8 rfl Tryz.results8 Tryz.ntmps8 ?_
  by_cases h0 : 400 < g.code.length
  · have c1 : decide ((400 : Int) < (g.code.length : Int)) = true := decide_eq_true (by omega)
    rw [if_pos h0] at h
    simp only [go_sem, w1, w2, w3, a1, a2, a3, a4, wOb, c1]
    have := fin_tup0 hA (h v)
    rwa [stW_self hA] at this
  have c1 : decide ((400 : Int) < (g.code.length : Int)) = false := decide_eq_false (by omega)
  rw [if_neg h0] at h
  simp only [go_sem, w1, w2, w3, a1, a2, a3, a4, wOb, c1]
  refine awp_drawD [] [0] [([], s), ([0], s ++ [Ob.map readersEs])] [[[]], [[], [0]], [[], [0]], [[0]], [[0]]] Tryz.mixed rfl rfl rfl rfl rfl ?_
  refine dD_t1 (d := [0]) rfl rfl (.mp (List.length s)) rfl (by simp only [go_sem]; exact readers_c _ _ ⟨rfl, rfl⟩) ?_
  refine dD_p2 rfl (.ref [i64 c.kind]) (by simp only [go_sem]) (by simp only [go_sem]) ?_
  refine dD_p2 rfl (i64 c.kind) (by simp only [go_sem]) (by simp only [go_sem]) ?_
  obtain ⟨X, hX, hXc⟩ : ∃ X, (getOr readersEs (.sc .nilFunc) c.kind).1 = X ∧ ((∃ f, X = .func f [] []) ∨ X = .sc .nilFunc) := by
    refine ⟨_, rfl, ?_⟩
    rw [readers_get]
    repeat' split
    all_goals first | exact .inr rfl | exact .inl ⟨_, rfl⟩
  refine dD_p1 rfl X ?_ ?_
  · show d1Spec Tryz.prog _ _ _ _ (s ++ [.map readersEs]) _
    simp only [go_sem, get_reader, hX]
  refine dD_p1 rfl X ?_ ?_
  · rcases hXc with ⟨f, rfl⟩ | rfl <;> simp only [go_sem]
  refine dD_end ?_
  clear hXc
  rw [readers_get] at hX
  have hA1 := hA.app [Ob.map readersEs]
  obtain ⟨T, hT⟩ : ∃ T, s ++ [Ob.map readersEs] = T := ⟨_, rfl⟩
  rw [show AL.look [([], s), ([0], s ++ [Ob.map readersEs])] [0] = T from hT]
  rw [hT] at hA1
  have hTs : ∀ g' v', stW T L g' v' = stW s L g' v' ++ [Ob.map readersEs] := fun g' v' => by rw [← hT, stW_app hA]
  have fin : ∀ {g' v'}, K (.tuple []) (stW s L g' v') → FinM s K (.tuple []) (stW T L g' v') := fun hk => by rw [hTs]; exact fin_tup hA hk
  by_cases k10 : c.kind = 10
  · rw [if_pos k10] at h
    rw [if_pos k10] at hX
    subst hX
    have hk := hkid (.inl k10)
    simp only [go_sem]
    refine let_c hE hF hA1 c (fun i _ => hk i) hg last _ fun v1 => ?_
    simp only [go_sem]
    exact fin (h _)
  rw [if_neg k10] at h
  rw [if_neg k10] at hX
  by_cases k15 : c.kind = 15
  · rw [if_pos k15] at h
    rw [if_pos k15] at hX
    subst hX
    have hk := hkid (.inr (.inl k15))
    simp only [go_sem]
    refine seq_c hE hF hA1 c (fun i _ => hk i) hg last _ fun v1 => ?_
    simp only [go_sem]
    exact fin (h _)
  rw [if_neg k15] at h
  rw [if_neg k15] at hX
  by_cases k11 : c.kind = 11
  · rw [if_pos k11] at h
    rw [if_pos k11] at hX
    subst hX
    have hk := hkid (.inr (.inr (.inl k11)))
    simp only [go_sem]
    refine branch_c hE hF hA1 c (fun i _ => hk i) hg last _ fun v1 => ?_
    simp only [go_sem]
    exact fin (h _)
  rw [if_neg k11] at h
  rw [if_neg k11] at hX
  by_cases k12 : c.kind = 12
  · rw [if_pos k12] at h
    rw [if_pos k12] at hX
    subst hX
    have hk := hkid (.inr (.inr (.inr (.inl k12))))
    simp only [go_sem]
    refine match_c hE hF hA1 c (fun i _ => hk i) (by omega) hb1.2.2 hg last _ fun v1 => ?_
    simp only [go_sem]
    exact fin (h _)
  rw [if_neg k12] at h
  rw [if_neg k12] at hX
  by_cases k9 : c.kind = 9
  · rw [if_pos k9] at h
    rw [if_pos k9] at hX
    subst hX
    simp only [go_sem]
    refine call_c hE hF hA1 c hkids (by omega) hg last _ fun v1 => ?_
    simp only [go_sem]
    exact fin (h _)
  rw [if_neg k9] at h
  rw [if_neg k9] at hX
  subst hX
  -- what stands behind the switch
  have ret : ∀ {g' v'}, okG g' → (∀ v', K (.tuple []) (stW s L (retG last g') v')) → (last = true → ACalls Tryz.prog 17 [.ptr L.w 0, i64 15, .slice .full 0 []] (fun x t => FinM s K (.tuple []) t) (stW T L g' v')) ∧ (last = false → FinM s K (.tuple []) (stW T L g' v')) := by
    intro g' v' hg' hk
    refine ⟨fun e => ?_, fun e => ?_⟩
    · subst e
      refine put_c (hA1.turn _ _) 15 _ 0 [] (fun h => absurd rfl h) (by simp) (by have := hg'.1; omega) _ fun v1 => ?_
      rw [stW_stW hA1]
      exact fin (hk _)
    · subst e
      exact fin (hk _)
  have b0 : ∀ n : Int, c.kind ≠ n → (c.kind == n) = false := fun n h => beq_eq_false_iff_ne.2 h
  have b1 : ∀ n : Int, c.kind = n → (c.kind == n) = true := fun n h => beq_iff_eq.2 h
  obtain ⟨⟨u1, u2, u3⟩, ⟨q1, q2, q3⟩, -, -, -⟩ := hA1.facts
  have hle : g.code.length ≤ 400 := by omega
  by_cases k1 : c.kind = 1
  · rw [if_pos k1] at h
    have c2 := b1 1 k1
    have ap := gd_int hg hle c.number 1 (intG c.number g).1 0
    have hcl := (int_len c.number g).1
    simp only [go_sem, c2]
    refine awp_drawW [] [(0, [11]), (0, []), (0, []), (0, []), (0, []), (0, []), (0, []), (0, []), (0, []), (3, [11]), (0, []), (3, [12])] Tryz.mixed rfl ?_
    simp only [go_sem, drawW_n, drawW_0, drawW_1, drawW_2, drawW_3, pend_n, pend_c, headD_c, isStore_s, u1, u2, u3, q1, q2, q3, wOb]
    refine ⟨_, _, placeI_k hA1 c.number (by have := hg.2.1; omega) _ ⟨rfl, rfl⟩, ?_⟩
    try simp only [go_sem, drawW_n, drawW_0, drawW_1, drawW_2, drawW_3, pend_n, pend_c, headD_c, isStore_s]
    rw [dk_eff]
    refine ⟨.slice .full 1 [i64 ((intG c.number g).1 : Nat)], ?_, ?_⟩
    · simp only [go_sem]
      exact ⟨⟨[], by simp⟩, ids_args _ [_], .inl rfl⟩
    try simp only [go_sem, drawW_n, drawW_0, drawW_1, drawW_2, drawW_3, pend_n, pend_c, headD_c, isStore_s]
    refine ⟨_, _, put_k (hA1.turn _ _) 1 _ 1 [((intG c.number g).1 : Nat)] (fun _ => rfl) (by simp) (by rw [hcl]; omega) _ ⟨rfl, rfl⟩, ?_⟩
    rw [stW_stW hA1]
    try simp only [List.getD_cons_zero, List.getD_cons_succ, List.getD_nil]
    try simp only [go_sem]
    exact ret ap.ok h
  rw [if_neg k1] at h
  have d1 := b0 1 k1
  by_cases k2 : c.kind = 2
  · rw [if_pos k2] at h
    have c2 := b1 2 k2
    have ap := gd_text hg hle c.text 2 (textG c.text g).1 0
    have hcl := (text_len c.text g).1
    simp only [go_sem, d1, c2]
    refine awp_drawW [] [(0, [11]), (0, []), (0, []), (0, []), (0, []), (0, []), (0, []), (0, []), (0, []), (3, [11]), (0, []), (3, [12])] Tryz.mixed rfl ?_
    simp only [go_sem, drawW_n, drawW_0, drawW_1, drawW_2, drawW_3, pend_n, pend_c, headD_c, isStore_s, u1, u2, u3, q1, q2, q3, wOb]
    refine ⟨_, _, placeT_k hA1 c.text (by have := hg.2.2; omega) _ ⟨rfl, rfl⟩, ?_⟩
    try simp only [go_sem, drawW_n, drawW_0, drawW_1, drawW_2, drawW_3, pend_n, pend_c, headD_c, isStore_s]
    rw [dk_eff]
    refine ⟨.slice .full 1 [i64 ((textG c.text g).1 : Nat)], ?_, ?_⟩
    · simp only [go_sem]
      exact ⟨⟨[], by simp⟩, ids_args _ [_], .inl rfl⟩
    try simp only [go_sem, drawW_n, drawW_0, drawW_1, drawW_2, drawW_3, pend_n, pend_c, headD_c, isStore_s]
    refine ⟨_, _, put_k (hA1.turn _ _) 2 _ 1 [((textG c.text g).1 : Nat)] (fun _ => rfl) (by simp) (by rw [hcl]; omega) _ ⟨rfl, rfl⟩, ?_⟩
    rw [stW_stW hA1]
    try simp only [List.getD_cons_zero, List.getD_cons_succ, List.getD_nil]
    try simp only [go_sem]
    exact ret ap.ok h
  rw [if_neg k2] at h
  have d2 := b0 2 k2
  by_cases k13 : c.kind = 13
  · rw [if_pos k13] at h
    have c2 := b1 13 k13
    have hk := hkid (.inr (.inr (.inr (.inr (.inl k13)))))
    simp only [go_sem, d1, d2, c2]
    refine either_c hE hF hA1 c (fun i _ => hk i) hg 21 22 true _ fun v1 => ?_
    simp only [go_sem]
    exact ret (gd_either hF c 21 22 true hg).ok h
  rw [if_neg k13] at h
  have d13 := b0 13 k13
  by_cases k21 : c.kind = 21
  · rw [if_pos k21] at h
    have c2 := b1 21 k21
    have hk := hkid (.inr (.inr (.inr (.inr (.inr (.inl k21))))))
    simp only [go_sem, d1, d2, d13, c2]
    refine either_c hE hF hA1 c (fun i _ => hk i) hg 28 29 false _ fun v1 => ?_
    simp only [go_sem]
    exact ret (gd_either hF c 28 29 false hg).ok h
  rw [if_neg k21] at h
  have d21 := b0 21 k21
  by_cases k19 : c.kind = 19
  · rw [if_pos k19] at h
    have c2 := b1 19 k19
    have hk := hkid (.inr (.inr (.inr (.inr (.inr (.inr k19))))))
    have p1 := gd_put hg 26 0 0
    have p2 := hF (kidC c 0) false _ p1.ok
    have p3 := gd_put p2.ok 27 0 0
    simp only [go_sem, d1, d2, d13, d21, c2]
    refine put_c hA1 26 _ 0 [] (fun h => absurd rfl h) (by simp) (by have := hg.1; omega) _ fun v1 => ?_
    try simp only [List.getD_cons_zero, List.getD_cons_succ, List.getD_nil]
    try simp only [go_sem]
    first | (unfold ACallsH; simp only [put_some, put_none', ev_tmp, List.set_cons_succ, List.set_cons_zero, List.getD_cons_succ, List.getD_cons_zero]) | skip
    refine kid_c c 0 (by omega) _ _ ?_
    try simp only [go_sem]
    first | (unfold ACallsH; simp only [put_some, put_none', ev_tmp, List.set_cons_succ, List.set_cons_zero, List.getD_cons_succ, List.getD_cons_zero]) | skip
    refine hE (hA1.turn _ _) _ false (hk 0) p1.ok _ fun v2 => ?_
    rw [stW_stW hA1]
    try simp only [go_sem]
    first | (unfold ACallsH; simp only [put_some, put_none', ev_tmp, List.set_cons_succ, List.set_cons_zero, List.getD_cons_succ, List.getD_cons_zero]) | skip
    refine put_c (hA1.turn _ _) 27 _ 0 [] (fun h => absurd rfl h) (by simp) (by have := p2.ok.1; omega) _ fun v3 => ?_
    rw [stW_stW hA1]
    try simp only [List.getD_cons_zero, List.getD_cons_succ, List.getD_nil]
    try simp only [go_sem]
    exact ret p3.ok h
  rw [if_neg k19] at h
  have d19 := b0 19 k19
  by_cases k14 : c.kind = 14
  · rw [if_pos k14] at h
    have c2 := b1 14 k14
    have a2 := gd_kids hF c.kids hg
    have ao := gd_op hF c hg
    unfold opG at h ao
    simp only [go_sem, d1, d2, d13, d21, d19, c2]
    refine kids_c hE hF hA1 c hkids (by omega) hg _ fun v1 => ?_
    have et : (c.text.toList == (⟨#[94]⟩ : ByteArray).toList) = true ↔ c.text.data.toList = [94] := by
      rw [ByteArray.toList_eq, ByteArray.toList_eq, beq_iff_eq]
    simp only [go_sem]
    refine ⟨fun hc => ?_, fun hc => ?_⟩
    · rw [if_pos (et.1 hc)] at h ao
      first | (unfold ACallsH; simp only [put_some, put_none', ev_tmp, List.set_cons_succ, List.set_cons_zero, List.getD_cons_succ, List.getD_cons_zero]) | skip
      refine put_c (hA1.turn _ _) 20 _ 0 [] (fun h => absurd rfl h) (by simp) (by have := a2.ok.1; omega) _ fun v3 => ?_
      rw [stW_stW hA1]
      try simp only [List.getD_cons_zero, List.getD_cons_succ, List.getD_nil]
      try simp only [go_sem]
      exact ret ao.ok h
    · have hn : ¬ c.text.data.toList = [94] := fun e => by rw [et.2 e] at hc; cases hc
      rw [if_neg hn] at h ao
      first | (unfold ACallsH; simp only [put_some, put_none', ev_tmp, List.set_cons_succ, List.set_cons_zero, List.getD_cons_succ, List.getD_cons_zero]) | skip
      refine index_s (hA1.turn _ _).gl c.text ?_
      have em : (if 0 > signO c.text then 0 else signO c.text) = max (signO c.text) 0 := by
        by_cases h1 : 0 > signO c.text
        · rw [if_pos h1, Int.max_eq_right (by omega)]
        · rw [if_neg h1, Int.max_eq_left (by omega)]
      try simp only [go_sem]
      rw [em]
      refine put_c (hA1.turn _ _) 19 _ 1 [max (signO c.text) 0] (fun _ => rfl) (by simp) (by have := a2.ok.1; omega) _ fun v3 => ?_
      rw [stW_stW hA1]
      try simp only [List.getD_cons_zero, List.getD_cons_succ, List.getD_nil]
      try simp only [go_sem]
      exact ret ao.ok h
  rw [if_neg k14] at h
  have d14 := b0 14 k14
  simp only [go_sem, d1, d2, d13, d21, d19, d14]
  refine rest_c hE hF hA1 c hkids (by omega) hg _ fun v1 => ?_
  simp only [go_sem]
  exact ret (gd_rest hF c hg).ok h
/-- exp, of cores that are so deep. -/
theorem exp_c : ∀ d : Nat, HasE (fitC d) (expG d)
  | 0 => fun _ _ _ hfit => hfit.elim
  | d + 1 => exp_step (exp_c d)
end Go.Proofs
