/- The abstract layer, part 30: a range over a map, as code. -/
import Derived.Test.YteclbnjpijakbaaA7
import Derived.Sort.Row
import Derived.Sort.Grow
import Derived.Below
import Derived.RangeFuncLeaves
import Derived.RangeFuncFrom
set_option linter.unusedVariables false
namespace Go.AL
variable {P : Program}

theorem wpOps_value {ops : Array Oper} {Q : Exit → Act → World → Prop} {i : Nat} {r : List Nat} {o : Oper} {a : Act} {w w' : World} {v : Value} (ho : ops[i]? = some o) (hg : o.guard = none)
    (hrun : (execOp a.eval o).run P w = .ok (.value v) w') (h : wpOps P ops Q r (a.put o.dst v) w') : wpOps P ops Q (i :: r) a w := by
  simp only [wpOps, ho, Region.wanted, hg, if_true]
  refine .inl ?_
  unfold Oper.wp
  rw [hrun]
  exact h

theorem wp_loop_J {c : Code} {Q : Exit → Act → World → Prop} (J : Nat → Act → World → Prop) {n : Nat} {a : Act} {w : World} (h0 : J n a w)
    (round : ∀ m a' w', J m a' w' → c.wp P (fun e a2 w2 => match e with | .normal => ∃ m', m' < m ∧ J m' a2 w2 | e => Q e a2 w2) a' w') : (Code.loop c).wp P Q a w := by
  have key : ∀ m, ∀ a' w', J m a' w' → ∀ (b : Frame) (k : List Item) (cs : List Frame), ∃ e a2 w2, Q e a2 w2 ∧ Arrives P (lone (b.at a' (.code c :: .inLoop c :: k)) cs w') b k cs e a2 w2 := by
    intro m
    induction m using Nat.strongRecOn with
    | _ m ih =>
      intro a' w' hJ b k cs
      obtain ⟨e, a1, w1, hq, harr⟩ := round m a' w' hJ b (.inLoop c :: k) cs
      cases e with
      | normal =>
        obtain ⟨m1, hlt, hJ1⟩ := hq
        obtain ⟨e2, a2, w2, hq2, harr2⟩ := ih m1 hlt a1 w1 hJ1 b k cs
        exact ⟨e2, a2, w2, hq2, .of_steps (Steps.trans harr (.one step_inLoop)) harr2⟩
      | exit id => exact ⟨_, a1, w1, hq, .pass (x := .inLoop c) rfl (fun _ _ => .inl (by simp)) harr⟩
      | goto l => exact ⟨_, a1, w1, hq, .pass (x := .inLoop c) rfl (fun _ _ => .inl (by simp)) harr⟩
      | ret => exact ⟨_, a1, w1, hq, .pass (x := .inLoop c) rfl (fun _ _ => .inl (by simp)) harr⟩
      | panic ch => exact ⟨_, a1, w1, hq, .pass (x := .inLoop c) rfl (fun _ _ => .inl (by simp)) harr⟩
      | outgrown => exact ⟨_, a1, w1, hq, .pass (x := .inLoop c) rfl (fun _ _ => .inl (by simp)) harr⟩
  intro b k cs
  obtain ⟨e, a', w', hq, harr⟩ := key n a w h0 b k cs
  exact ⟨e, a', w', hq, .of_steps (.one step_loop) harr⟩

theorem eval_put_same {a : Act} {d : Nat} {v : Value} (h : d < a.tmps.size) : (a.put (some d) v).eval (.tmp d) = v := by
  simp [Act.put, Act.eval, Array.getD, h]

/-- What a round's own code must come to. -/
def roundQ (X Y : Nat) (Q : Exit → List SV → St → Prop) (I : List SV → St → Prop) : Exit → List SV → St → Prop :=
  blockQ Y (thenQ (fun e s => ∃ e', LeEnv e e' ∧ I e' s) (blockQ X Q))

theorem awp_rangeMap (M : List Nat) {x a1 a2 d1 d2 d3 X Y mid : Nat} {t : TypeId} {i0 i1 i2 : Nat} {o1 o2 o3 o4 o5 : Oper} {r : List Oper} {rest : Code} {ops : Array Oper} {env : List SV} {st : St} {Q : Exit → List SV → St → Prop} {es : List (Value × SV)}
    (h1 : o1.op = .move (.tmp x) ∧ o1.dst = some a1 ∧ o1.guard = none) (h2 : o2.op = .range t (.tmp a1) ∧ o2.dst = some a2 ∧ o2.guard = none)
    (h3 : o3.op = .next (.tmp a2) false ∧ o3.dst = some d1 ∧ o3.guard = none) (h4 : o4.op = .extract (.tmp d1) 0 ∧ o4.dst = some d2 ∧ o4.guard = none)
    (h5 : o5.op = .entry (.tmp a2) ∧ o5.dst = some d3 ∧ o5.guard = none) (hops : ops.toList = o5 :: r)
    (hn1 : a2 ≠ d1) (hn2 : a2 ≠ d2) (hn3 : d1 ≠ d2) (hl : a1 < env.length ∧ a2 < env.length ∧ d1 < env.length ∧ d2 < env.length)
    (hx : env.getD x .any = .mp mid) (hes : st[mid]? = some (.map es)) (hu : (aMap P t).isSome = true)
    (I : SV → List Nat → List SV → St → Prop)
    (h0 : ∀ it, ∃ e', LeEnv ((env.set a1 (.mp mid)).set a2 it) e' ∧ I it [] e' st)
    (hmap : ∀ it S e s, I it S e s → s[mid]? = some (.map es) ∧ e.getD a2 .any = it ∧ e.length = env.length)
    (hdone : ∀ it S e s, I it S e s → (∀ j, j < es.length → j ∈ S) → S.Nodup → (∀ j ∈ S, j < es.length) → Q .normal ((e.set d1 (.tuple [.sc (.bool false)])).set d2 (.sc (.bool false))) s)
    (hround : ∀ it S j e s, I it S e s → S.Nodup → (∀ j ∈ S, j < es.length) → j < es.length → j ∉ S →
      opsSpec P M (ops.toList.map (·.dst)) r (((e.set d1 (.tuple [.sc (.bool true), .any, .any])).set d2 (.sc (.bool true))).set d3 (.tuple [.sc (es.getD j (default, .any)).1, (es.getD j (default, .any)).2])) s
        (fun e s => cSpec P M rest (roundQ X Y Q (I it (S ++ [j]))) e s)) :
    AWp P (.seq (.region i0 #[o1, o2] false) (.block X (.loop (.seq (.region i1 #[o3, o4] false) (.seq (.cond (.tmp d2) .skip (.exit X)) (.block Y (.seq (.region i2 ops false) rest))))))) Q env st := by
  intro σ w a hI hR D hd
  obtain ⟨m, ents, clock, q1, q2, q3, q4⟩ := hI.maps mid es hes
  have hxv : a.eval (.tmp x) = .map (some m) := by
    have := hR.get x
    rw [hx] at this
    show a.tmps.getD x undef = _
    generalize a.tmps.getD x undef = v at this
    cases this with
    | mp _ b' _ hb' => rw [q1] at hb'; cases hb'; rfl
  obtain ⟨⟨kt, kd, ke⟩, hmt⟩ := Option.isSome_iff_exists.1 hu
  have hut := (aMap_of hmt).1
  have hsz := hR.1
  -- the range
  have hw1 : (Code.region i0 #[o1, o2] false).wp P (fun e a' w' => e = .normal ∧ a' = (a.put (some a1) (.map (some m))).put (some a2) (.pointer (some ⟨w.heap.size, 0, none⟩)) ∧ w' = w.alloc (.mapIter (some m) clock #[] clock)) a w := by
    refine wp_region ?_
    have hr1 : (execOp a.eval o1).run P w = .ok (.value (.map (some m))) w := by simp [execOp, h1.1, hxv]
    refine wpOps_value (o := o1) (i := 0) rfl h1.2.2 hr1 ?_
    have hr2 : (execOp (a.put o1.dst (.map (some m))).eval o2).run P w = .ok (.value (.pointer (some ⟨w.heap.size, 0, none⟩))) (w.alloc (.mapIter (some m) clock #[] clock)) := by
      have he : (a.put o1.dst (.map (some m))).eval (.tmp a1) = .map (some m) := by rw [h1.2.1]; exact eval_put_same (by omega)
      simp [execOp, h2.1, he, run_range_map w t kt ke m ents clock hut q2]
    refine wpOps_value (o := o2) (i := 1) rfl h2.2.2 hr2 ?_
    exact ⟨rfl, by rw [h1.2.1, h2.2.1], rfl⟩
  refine wp_seq (wp_mono hw1 fun e a' w' hp => ?_)
  obtain ⟨rfl, rfl, rfl⟩ := hp
  -- behind it
  have hb : ∃ b, b = w.heap.size := ⟨_, rfl⟩
  obtain ⟨b, hb⟩ := hb
  have hX1 : Ext st σ w st (σ.setLock b .all) (w.alloc (.mapIter (some m) clock #[] clock)) := by rw [hb]; exact Ext.alloc hI _ .all
  have hI1 : Inv st (σ.setLock b .all) (w.alloc (.mapIter (some m) clock #[] clock)) := by rw [hb]; exact hI.alloc _ .all
  rw [← hb]
  obtain ⟨it, hit⟩ : ∃ it, it = SV.sc (.pointer (some ⟨b, 0, none⟩)) := ⟨_, rfl⟩
  have hR1 : RepEnv st (σ.setLock b .all) (w.alloc (.mapIter (some m) clock #[] clock)) ((env.set a1 (.mp mid)).set a2 it) ((a.put (some a1) (.map (some m))).put (some a2) (.pointer (some ⟨b, 0, none⟩))).tmps := by
    refine rep_put (rep_put (hR.ext hX1) (some a1) (.mp mid m ⟨es, hes⟩ q1)) (some a2) ?_
    rw [hit]; exact .sc _
  have hit1 : IterAt st (σ.setLock b .all) (w.alloc (.mapIter (some m) clock #[] clock)) b mid es.length [] := by
    refine ⟨by simp [Sig.setLock, Lock.still], m, ents, clock, clock, #[], clock, q1, ?_, q3.1, ?_, rfl, fun j hj => q3.2.2.1 j (by rw [q3.1]; exact hj), fun _ h => absurd rfl h⟩
    · show (w.heap.push _)[m]? = _
      rw [heap_push_old _ (lt_of_some q2)]; exact q2
    · show (w.heap.push _)[b]? = _
      rw [hb]; simp
  obtain ⟨e0, hle0, hI0⟩ := h0 it
  refine wp_block ?_
  refine wp_mono (Q := fun e a' w' => Post D (blockQ X Q e) st σ w a' w') ?_ fun e a' w' hp => ?_
  rotate_left
  · cases e with
    | exit id' =>
      simp only [Exit.inBlock]
      split
      · rename_i e; simpa only [blockQ, e, if_true] using hp
      · rename_i e; simpa only [blockQ, e, if_false] using hp
    | _ => exact hp
  refine wp_loop_J (fun k a' w' => a'.defers = D ∧ ∃ S e s σ', I it S e s ∧ S.Nodup ∧ (∀ j ∈ S, j < es.length) ∧ k + S.length = es.length ∧ Inv s σ' w' ∧ RepEnv s σ' w' e a'.tmps ∧ Ext st σ w s σ' w' ∧ IterAt s σ' w' b mid es.length S) (n := es.length)
    ⟨by rw [put_defers, put_defers]; exact hd, [], e0, st, _, hI0, List.nodup_nil, fun j hj => (by cases hj), by simp, hI1, repEnv_le hle0 hR1, hX1, hit1⟩ ?_
  rintro k a' w' ⟨hd', S, e, s, σ', hIS, hnd, hlt, hk, hI', hR', hX', hIt⟩
  obtain ⟨m1, m2, m3⟩ := hmap it S e s hIS
  have hev : a'.eval (.tmp a2) = .pointer (some ⟨b, 0, none⟩) := by
    have := hR'.get a2
    rw [m2, hit] at this
    exact rep_sc this
  have hsz' := hR'.1
  rcases iter_next (P := P) o3.type hI' m1 rfl hIt hlt with ⟨hall, hrun⟩ | ⟨j, hj, hjS, v, w2, hrun, hrv, hsw, hIt2, hIJ⟩
  · -- nothing is left
    have hw2 : (Code.region i1 #[o3, o4] false).wp P (fun e a2 w2 => e = .normal ∧ a2 = (a'.put (some d1) (.tuple #[.bool false])).put (some d2) (.bool false) ∧ w2 = w') a' w' := by
      refine wp_region ?_
      refine wpOps_value (o := o3) (i := 0) rfl h3.2.2 (v := .tuple #[.bool false]) (w' := w') (by simp [execOp, h3.1, hev, hrun]) ?_
      refine wpOps_value (o := o4) (i := 1) rfl h4.2.2 (v := .bool false) (w' := w') ?_ ⟨rfl, by rw [h3.2.1, h4.2.1], rfl⟩
      have he : (a'.put o3.dst (.tuple #[.bool false])).eval (.tmp d1) = .tuple #[.bool false] := by rw [h3.2.1]; exact eval_put_same (by omega)
      simp [execOp, h4.1, he, Instr.extract]
    refine wp_seq (wp_mono hw2 fun e1 a2' w2' hp => ?_)
    obtain ⟨rfl, rfl, rfl⟩ := hp
    refine wp_seq ?_
    have hc : ((a'.put (some d1) (.tuple #[.bool false])).put (some d2) (.bool false)).eval (.tmp d2) = .bool false := eval_put_same (by simp [Act.put]; omega)
    refine wp_cond_split hc (fun h => by cases h) fun _ => ?_
    refine wp_exit ?_
    refine ⟨by rw [put_defers, put_defers]; exact hd', _, s, σ', ?_, hI', rep_put (rep_put hR' (some d1) (.tuple [.sc (.bool false)] #[.bool false] rfl fun i hi => ?_)) (some d2) (.sc _), hX'⟩
    · simp only [blockQ, if_true]
      exact hdone it S e s hIS hall hnd hlt
    · match i, hi with
      | 0, _ => exact .sc _
  · -- an entry has come
    have hI2 := hI'.swap hsw
    have hX2 := hX'.swap hsw hI (by omega)
    have hR2 : RepEnv s σ' w2 e a'.tmps := ⟨hR'.1, fun i hi => (hR'.2 i hi).swap hsw⟩
    obtain ⟨vs, rfl, hv0⟩ : ∃ vs : Array Value, v = .tuple vs ∧ vs[0]? = some (.bool true) := by
      cases hrv with
      | tuple l vs hl r =>
        have h0 := r 0 (by simp)
        have := rep_sc h0
        refine ⟨vs, rfl, ?_⟩
        have hl' : vs.size = 3 := hl
        rw [Array.getD_eq_getD_getElem?, Array.getElem?_eq_getElem (by omega)] at this
        rw [Array.getElem?_eq_getElem (by omega)]
        simpa using this
    have hw2 : (Code.region i1 #[o3, o4] false).wp P (fun e a2 w3 => e = .normal ∧ a2 = (a'.put (some d1) (.tuple vs)).put (some d2) (.bool true) ∧ w3 = w2) a' w' := by
      refine wp_region ?_
      refine wpOps_value (o := o3) (i := 0) rfl h3.2.2 (v := .tuple vs) (w' := w2) (by simp [execOp, h3.1, hev, hrun]) ?_
      refine wpOps_value (o := o4) (i := 1) rfl h4.2.2 (v := .bool true) (w' := w2) ?_ ⟨rfl, by rw [h3.2.1, h4.2.1], rfl⟩
      have he : (a'.put o3.dst (.tuple vs)).eval (.tmp d1) = .tuple vs := by rw [h3.2.1]; exact eval_put_same (by omega)
      simp [execOp, h4.1, he, Instr.extract, hv0]
    refine wp_seq (wp_mono hw2 fun e1 a2' w2' hp => ?_)
    obtain ⟨rfl, rfl, rfl⟩ := hp
    refine wp_seq ?_
    have hc : ((a'.put (some d1) (.tuple vs)).put (some d2) (.bool true)).eval (.tmp d2) = .bool true := eval_put_same (by simp [Act.put]; omega)
    refine wp_cond_split hc (fun _ => ?_) fun h => by cases h
    refine wp_skip ?_
    have hR3 : RepEnv s σ' w2' ((e.set d1 (.tuple [.sc (.bool true), .any, .any])).set d2 (.sc (.bool true))) ((a'.put (some d1) (.tuple vs)).put (some d2) (.bool true)).tmps := rep_put (rep_put hR2 (some d1) hrv) (some d2) (.sc _)
    have hev3 : ((a'.put (some d1) (.tuple vs)).put (some d2) (.bool true)).eval (.tmp a2) = .pointer (some ⟨b, 0, none⟩) := by
      have := hR3.get a2
      have e1 : ((e.set d1 (.tuple [.sc (.bool true), .any, .any])).set d2 (.sc (.bool true))).getD a2 .any = it := by
        rw [← m2]
        simp [List.getD_eq_getElem?_getD, List.getElem?_set_ne (Ne.symm hn1), List.getElem?_set_ne (Ne.symm hn2)]
      rw [e1, hit] at this
      exact rep_sc this
    obtain ⟨v3, hrun3, hrv3⟩ := iter_entry (P := P) hI2 m1 hIJ
    -- the round's own code
    have hspec := hround it S j e s hIS hnd hlt hj hjS
    have hops' : ops.toList.drop 1 = r := by rw [hops]; rfl
    have haops := aops_spec (P := P) (M := M) (ops := ops) 1 r _ s hops' hspec
    have hsize : ops.size = r.length + 1 := by rw [← Array.length_toList, hops]; rfl
    have hrange : List.range ops.size = 0 :: List.range' 1 r.length := by rw [hsize, List.range_eq_range', List.range'_succ]
    have hwr : (Code.seq (.region i2 ops false) rest).wp P (fun e a' w' => Post D (roundQ X Y Q (I it (S ++ [j])) e) s σ' w2' a' w') ((a'.put (some d1) (.tuple vs)).put (some d2) (.bool true)) w2' := by
      refine wp_seq ?_
      refine wp_region ?_
      rw [hrange]
      have ho5 : ops[0]? = some o5 := by
        rw [← Array.getElem?_toList, hops]; rfl
      refine wpOps_value ho5 h5.2.2 (v := v3) (w' := w2') (by simp [execOp, h5.1, hev3, hrun3]) ?_
      rw [h5.2.1]
      refine wpOps_mono (fun ex a3 w3 hp => ?_) _ _ _ (haops σ' w2' _ hI2 (rep_put hR3 (some d3) hrv3) (D := D) (by rw [put_defers, put_defers, put_defers]; exact hd'))
      obtain ⟨rfl, hd3, e3, s3, σ3, hc3, hI3, hR3', hX3⟩ := hp
      exact wp_mono (awp_c hc3 σ3 w3 a3 hI3 hR3' hd3) fun e a w hp => hp.ext hX3
    refine wp_block (wp_mono hwr fun ex a3 w3 hp => ?_)
    have fin : ∀ ex', Post D (thenQ (fun e s => ∃ e', LeEnv e e' ∧ I it (S ++ [j]) e' s) (blockQ X Q) ex') s σ' w2' a3 w3 → (match ex' with | .normal => ∃ m', m' < k ∧ (a3.defers = D ∧ ∃ S e s σ', I it S e s ∧ S.Nodup ∧ (∀ j ∈ S, j < es.length) ∧ m' + S.length = es.length ∧ Inv s σ' w3 ∧ RepEnv s σ' w3 e a3.tmps ∧ Ext st σ w s σ' w3 ∧ IterAt s σ' w3 b mid es.length S) | e => Post D (blockQ X Q e) st σ w a3 w3) := by
      intro ex' hp
      cases ex' with
      | normal =>
        obtain ⟨hd3, e3, s3, σ3, ⟨e4, hle4, hI4⟩, hI3, hR3', hX3⟩ := hp
        obtain ⟨p1, p2, p3⟩ := hmap it _ e4 s3 hI4
        have hj' : (S ++ [j]).length = S.length + 1 := by simp
        have hcard : S.length + 1 ≤ es.length := by
          have : (S ++ [j]).Nodup := by
            rw [List.nodup_append]
            exact ⟨hnd, by simp, fun a ha b hb => by simp at hb; subst hb; rintro rfl; exact hjS ha⟩
          have h1 : (S ++ [j]).length ≤ (List.range es.length).length := by
            refine List.Nodup.length_le_of_subset this fun y hy => ?_
            rw [List.mem_range]
            rcases List.mem_append.1 hy with h | h
            · exact hlt y h
            · simp at h; subst h; exact hj
          rw [hj', List.length_range] at h1; exact h1
        refine ⟨k - 1, by omega, hd3, S ++ [j], e4, s3, σ3, hI4, ?_, fun y hy => ?_, by rw [hj']; omega, hI3, repEnv_le hle4 hR3', hX2.trans hX3, hIt2.ext hX3 hI3 m1 p1 rfl⟩
        · rw [List.nodup_append]
          exact ⟨hnd, by simp, fun a ha b hb => by simp at hb; subst hb; rintro rfl; exact hjS ha⟩
        · rcases List.mem_append.1 hy with h | h
          · exact hlt y h
          · simp at h; subst h; exact hj
      | _ => exact Post.ext hp hX2
    cases ex with
    | exit id' =>
      simp only [Exit.inBlock]
      by_cases e : id' = Y
      · rw [if_pos e]
        refine fin .normal ?_
        simpa only [roundQ, blockQ, e, if_true] using hp
      · rw [if_neg e]
        refine fin (.exit id') ?_
        simpa only [roundQ, blockQ, e, if_false] using hp
    | normal => exact fin .normal hp
    | goto l => exact fin (.goto l) hp
    | ret => exact fin .ret hp
    | panic ch => exact fin (.panic ch) hp
    | outgrown => exact fin .outgrown hp

end Go.AL
set_option linter.unusedVariables false
namespace Go.AL
variable {P : Program}

section
variable {M : List Nat} {ds : List (Option Tmp)} {ks : List Nat} {tbl : List (List Nat × St)} {i : Nat} {L : List (List Nat)} {Ls : List (List (List Nat))} {o : Oper} {r : List Oper} {env : List SV} {K : List SV → Prop}
theorem dD_pA (hk : ks.contains i = false) (X : SV) (h1 : ∀ c ∈ L, d1Spec P M ds o env (look tbl c) (fun x => x = X)) (h2 : drawD P M ds ks tbl (i + 1) Ls r (putE env o.dst X) K) : drawD P M ds ks tbl i (L :: Ls) (o :: r) env K := by
  refine ⟨X, ?_, h2⟩
  rw [if_neg (by rw [hk]; decide)]
  exact h1
end

theorem forall_cs {α : Type} {p : α → Prop} {a : α} {l : List α} : (∀ x ∈ a :: l, p x) = (p a ∧ ∀ x ∈ l, p x) := propext List.forall_mem_cons
theorem forall_nl {α : Type} {p : α → Prop} : (∀ x ∈ ([] : List α), p x) = True := eq_true fun x hx => by cases hx

end Go.AL
set_option linter.unusedVariables false
namespace Go.AL
variable {P : Program}

theorem conv_as {st : St} (id j : Nat) (X : SV) {l : List SV} (hl : st[id]? = some (.cells l)) (hj : j < l.length) (he : ∀ σ w v, Rep st σ w (l.getD j .any) v → Rep st σ w X v) :
    Conv st (st.set id (.cells (l.set j X))) := by
  intro σ w hI
  obtain ⟨b, cs, T, h1, h2, h3, h4, h5⟩ := hI.cells id l hl
  have hr : ∀ i, i < (l.set j X).length → Rep st σ w ((l.set j X).getD i .any) (cs.getD i default) := by
    intro i hi
    simp only [List.length_set] at hi
    by_cases e : j = i
    · subst e
      have e2 : (l.set j X).getD j .any = X := by simp [List.getD_eq_getElem?_getD, hi]
      rw [e2]
      exact he σ w _ (h4 j hi)
    · have := h4 i hi
      simpa [List.getD_eq_getElem?_getD, List.getElem?_set_ne e] using this
  exact ⟨σ, Inv.write (w' := w) (l' := l.set j X) hI hl h1 h5 rfl rfl rfl rfl (fun _ _ => rfl) h2 (by simpa using h3) hr, Ext.write (w' := w) (l' := l.set j X) hI hl h1 h5 rfl rfl rfl rfl (fun _ _ => rfl)⟩

/-- An empty slice is any empty slice that is not one's own. -/
theorem rep_nil_imm {st : St} {σ : Sig} {w : World} {v : Value} {z z' : Nat} (h : Rep st σ w (.slice .full z' []) v) : Rep st σ w (.slice .imm z []) v := by
  have h7 := rep_nil_z (z' := z) h (.inl rfl)
  generalize hl' : ([] : List SV) = l' at h7
  generalize hx : SV.slice .full z l' = x at h7
  cases h7 with
  | nil m z hm => cases hx; exact .nil _ _ trivial
  | slice m z l a cap vals hcap hsp hzz hc hr hm =>
    cases hx
    subst hl'
    exact .slice _ _ _ _ _ vals hcap hsp hzz hc hr trivial
  | _ => cases hx

/-- A call whose code is walked by hand. -/
theorem acalls_goA {f : FuncId} {fn : Func} {c : Code} {rs : Array ResultVar} {n : Nat} {args : List SV} {K : SV → St → Prop} {st : St} (hf : P.funcs[f]? = some fn) (hb : fn.body = some c)
    (hr : fn.results = rs) (hn : fn.ntmps = n) (h : AWp P c (RetR P rs.toList K) (args ++ List.replicate (n - args.length) .any) st) : ACalls P f args K st := by
  subst hr; subst hn
  refine acalls_of hf hb (h.mono fun e env st hq => ?_)
  cases e <;> simp only [RetR] at hq <;> first | exact hq.elim | exact ⟨trivial, _, getD_of (d := []) hq.1, hq.2⟩

end Go.AL
set_option linter.unusedVariables false
namespace Go.AL
variable {P : Program}

theorem ext_grow {st : St} (os : Array Obj) {σ : Sig} {w : World} (hI : Inv st σ w) : ∃ σ', Inv st σ' (Sort.grow w os) ∧ Ext st σ w st σ' (Sort.grow w os) := by
  obtain ⟨l⟩ := os
  induction l generalizing σ w with
  | nil => exact ⟨σ, by simpa [Sort.grow] using hI, by simpa [Sort.grow] using Ext.refl st σ w⟩
  | cons o r ih =>
    obtain ⟨σ', h1, h2⟩ := ih (hI.alloc o (.upto 0))
    have e : Sort.grow w ⟨o :: r⟩ = Sort.grow { w with heap := w.heap.push o } ⟨r⟩ := by
      unfold Sort.grow
      congr 1
      apply Array.toList_inj.1
      simp
    rw [e]
    exact ⟨σ', h1, (Ext.alloc hI o (.upto 0)).trans h2⟩

theorem st_same {st : St} {id : Nat} {o : Ob} (h : st[id]? = some o) : st.set id o = st := by
  refine List.ext_getElem? fun i => ?_
  by_cases e : id = i
  · subst e; rw [List.getElem?_set_self (lt_of_get h), h]
  · rw [List.getElem?_set_ne e]

theorem sort_arr {f : FuncId} (hS : ∀ (blk off cap : Nat) (zs : List Int) (w : World), Sort.Holds (Value.int .i64) w blk off zs.toArray → blk < w.heap.size → zs.length < 4611686018427387904 →
      Calls P f #[.slice (some ⟨blk, off, none⟩) zs.length cap] w fun e w' => e = .returned (.tuple #[]) ∧ ∃ n os, w' = Sort.grow (Sort.putRow (Value.int .i64) (Sort.ahead w n) blk off (zs.mergeSort fun x y => decide (x ≤ y)).toArray) os)
    (hN : ∀ (p : Option Addr) (cap : Nat) (w : World), Calls P f #[.slice p 0 cap] w fun e w' => e = .returned (.tuple #[]) ∧ w' = w)
    {st : St} {id ver : Nat} {zs : List Int} (hid : st[id]? = some (.arr ver 1 (zs.map fun z => .sc (.int .i64 z)))) (hlen : zs.length < 4611686018427387904) (K : SV → St → Prop)
    (h : K (.tuple []) (st.set id (.arr ver 1 ((zs.mergeSort fun x y => decide (x ≤ y)).map fun z => .sc (.int .i64 z))))) : ACalls P f [.arr id ver zs.length] K st := by
  intro σ w vs hI hR
  have hr := hR.2 0 (by simp)
  simp only [List.getD_cons_zero] at hr
  have hvs : vs = #[vs.getD 0 undef] := by
    have := hR.1
    simp only [List.length_cons, List.length_nil] at this
    apply Array.ext
    · simpa using this
    · intro i h1 h2
      have : i = 0 := by simp at h2; omega
      subst this
      simp [Array.getD, h1]
  rw [hvs]
  generalize vs.getD 0 undef = v at hr
  have hlt := lt_of_get hid
  cases hr with
  | arr _ _ _ v0 z cs v ho hk hv hh =>
    rw [hid] at hk; cases hk
    obtain ⟨q1, q2⟩ := hh rfl
    rcases q2 with ⟨n1, n2, a, rfl⟩ | ⟨b, cap, vals, T, r1, rfl, r3, r4, r5⟩
    · have hz : zs = [] := List.eq_nil_of_length_eq_zero n2
      subst hz
      refine (hN a 0 w).mono ?_
      rintro e w' ⟨rfl, rfl⟩
      refine ⟨_, .tuple [], _, σ, rfl, h, ?_, .tuple [] #[] rfl (fun i hi => by cases hi), ?_⟩
      · rw [List.mergeSort_nil, st_same hid]; exact hI
      · rw [List.mergeSort_nil, st_same hid]; exact Ext.refl _ _ _
    · rcases hI.arrs id ver 1 _ hid with ⟨m1, _⟩ | ⟨b', vals', T', m1, m2, m3, m4, m5⟩
      · rw [m1] at r1; cases r1
      rw [r1] at m1; cases m1
      rw [r4] at m2; cases m2
      simp only [List.length_map] at m3 m4
      have hval : ∀ j, j < zs.length → vals.getD j default = .int .i64 (zs.getD j 0) := by
        intro j hj
        have := m4 j hj
        have e : (zs.map fun z => SV.sc (.int .i64 z)).getD j .any = .sc (.int .i64 (zs.getD j 0)) := by simp [List.getD_eq_getElem?_getD, hj]
        rw [e] at this
        exact rep_sc this
      have hH : Sort.Holds (Value.int .i64) w b 0 zs.toArray := by
        intro j hj
        have hj' : j < zs.length := by simpa using hj
        have h1 := hval j hj'
        have h2 : j < vals.size := by omega
        constructor
        · simp only [World.cell?, r4, Nat.zero_add]
          rw [Array.getD_eq_getD_getElem?, Array.getElem?_eq_getElem h2] at h1
          simp only [Option.getD_some] at h1
          simp [h2, h1, List.getD_eq_getElem?_getD, hj']
        · simp [World.frozen?, r4]
      refine (hS b 0 cap zs w hH (lt_of_some r4) hlen).mono ?_
      rintro e w' ⟨rfl, n, os, rfl⟩
      obtain ⟨zs', hzs⟩ : ∃ zs', zs' = zs.mergeSort fun x y => decide (x ≤ y) := ⟨_, rfl⟩
      have hl' : zs'.length = zs.length := by rw [hzs, List.length_mergeSort]
      rw [← hzs] at h ⊢
      obtain ⟨w1, hw1⟩ : ∃ w1, w1 = Sort.putRow (Value.int .i64) (Sort.ahead w n) b 0 zs'.toArray := ⟨_, rfl⟩
      rw [← hw1]
      have hb1 : w1.heap[b]? = some (.cells (Sort.putCells (Value.int .i64) 0 zs'.toArray vals) T (0, 0)) := by
        rw [hw1]
        show (w.heap.modify b _)[b]? = _
        rw [Array.getElem?_modify, if_pos rfl, r4]; rfl
      have hsz : (Sort.putCells (Value.int .i64) 0 zs'.toArray vals).size = vals.size := by simp [Sort.putCells]
      have hoth : ∀ c, c ≠ b → w1.heap[c]? = w.heap[c]? := by
        intro c hc
        rw [hw1]
        show (w.heap.modify b _)[c]? = _
        rw [Array.getElem?_modify, if_neg (Ne.symm hc)]
      have hs1 : w1.heap.size = w.heap.size := by
        rw [hw1]
        show (w.heap.modify b _).size = _
        rw [Array.size_modify]
      have ho1 : w1.os = w.os := by rw [hw1]; rfl
      have ht1 : w1.tape = w.tape := by rw [hw1]; rfl
      have hu1 : w1.output = w.output := by rw [hw1]; rfl
      have hX1 := Ext.arrWrite (w' := w1) (ver' := ver) (cs' := zs'.map fun z => .sc (.int .i64 z)) hI hid r1 r4 hb1 hsz (Nat.le_refl _) (fun _ => by simp [hl']) m5 ho1 ht1 hu1 hs1 hoth
      have hI1 := Inv.arrWrite (w' := w1) (ver' := ver) (cs' := zs'.map fun z => .sc (.int .i64 z)) hI hid r1 r4 hb1 hsz (Nat.le_refl _) (fun _ => by simp [hl']) m5 ho1 ht1 hu1 hs1 hoth (by rw [hsz]; simpa [hl'] using m3) (fun j hj => by
        have hj' : j < zs'.length := by simpa using hj
        have h2 : j < vals.size := by omega
        have e : (zs'.map fun z => SV.sc (.int .i64 z)).getD j .any = .sc (.int .i64 (zs'.getD j 0)) := by simp [List.getD_eq_getElem?_getD, hj']
        have e2 : (Sort.putCells (Value.int .i64) 0 zs'.toArray vals).getD j default = .int .i64 (zs'.getD j 0) := by
          simp only [Sort.putCells, Array.getD_eq_getD_getElem?, Array.getElem?_mapIdx, Array.getElem?_eq_getElem h2, Option.map_some, Option.getD_some]
          rw [if_pos (by simp; omega)]
          simp [List.getD_eq_getElem?_getD, hj']
        rw [e, e2]
        exact .sc _)
      obtain ⟨σ2, hI2, hX2⟩ := ext_grow os hI1
      exact ⟨_, .tuple [], _, σ2, rfl, h, hI2, .tuple [] #[] rfl (fun i hi => by cases hi), hX1.trans hX2⟩
end Go.AL
set_option linter.unusedVariables false
namespace Go.AL
variable {P : Program}

theorem Ext.freeze {st : St} {σ : Sig} {w : World} {b : Nat} (hb : ∀ i, i < st.length → σ.μ i ≠ some b) (hl : (σ.lock b).still = false) : Ext st σ w st (σ.setLock b .all) w where
  os := rfl
  tape := rfl
  output := rfl
  size := Nat.le_refl _
  lock := fun c o v h k => by
    refine ⟨?_, k⟩
    by_cases e : c = b
    · subst e; exact has_all σ c o
    · simp only [Sig.setLock, if_neg e]; exact h
  all := fun c hc hs => by
    have e : c ≠ b := by rintro rfl; rw [hl] at hs; cases hs
    exact ⟨by simp only [Sig.setLock, if_neg e], rfl⟩
  kcells := fun id l h => ⟨⟨l, h⟩, rfl⟩
  ktok := fun id v h => ⟨v, h, Nat.le_refl _, fun _ => ⟨rfl, fun c hc => by
    have e : c ≠ b := by rintro rfl; exact hb id (lt_of_get h) hc
    exact ⟨by simp only [Sig.setLock, if_neg e], rfl⟩⟩⟩
  karrs := fun id v z cs h => ⟨v, cs, h, Nat.le_refl _, fun _ => ⟨rfl, rfl, fun c vals T fr _ hh => ⟨vals, hh, rfl⟩⟩⟩
  kmaps := fun id es h => ⟨⟨es, h⟩, rfl, fun c ents clock _ hh => ⟨ents, clock, hh, Nat.le_refl _, fun _ _ => rfl⟩⟩

theorem Inv.freeze {st : St} {σ : Sig} {w : World} {b : Nat} (hI : Inv st σ w) (hb : ∀ i, i < st.length → σ.μ i ≠ some b) (hl : (σ.lock b).still = false) (hlt : b < w.heap.size) : Inv st (σ.setLock b .all) w where
  cells := fun id l h => by
    obtain ⟨c, cs, T, h1, h2, h3, h4, h5⟩ := hI.cells id l h
    have e : c ≠ b := by rintro rfl; exact hb id (lt_of_get h) h1
    exact ⟨c, cs, T, h1, h2, h3, fun j hj => (h4 j hj).ext (Ext.freeze hb hl), by simp only [Sig.setLock, if_neg e]; exact h5⟩
  tok := fun id v c h hc => by
    have e : c ≠ b := by rintro rfl; exact hb id (lt_of_get h) hc
    obtain ⟨h1, h2⟩ := hI.tok id v c h hc
    exact ⟨h1, by simp only [Sig.setLock, if_neg e]; exact h2⟩
  inj := hI.inj
  fresh := fun c hc => by
    have e : c ≠ b := by omega
    simp only [Sig.setLock, if_neg e]; exact hI.fresh c hc
  arrs := fun id v z cs h => by
    refine (hI.arrs id v z cs h).imp (fun h => h) fun ⟨c, vals, T, h1, h2, h3, h4, h5⟩ => ?_
    have e : c ≠ b := by rintro rfl; exact hb id (lt_of_get h) h1
    exact ⟨c, vals, T, h1, h2, h3, fun j hj => (h4 j hj).ext (Ext.freeze hb hl), by simp only [Sig.setLock, if_neg e]; exact h5⟩
  maps := fun id es h => by
    obtain ⟨c, ents, clock, h1, h2, h3, h4⟩ := hI.maps id es h
    have e : c ≠ b := by rintro rfl; exact hb id (lt_of_get h) h1
    exact ⟨c, ents, clock, h1, h2, ⟨h3.1, fun j hj => ⟨(h3.2.1 j hj).1, (h3.2.1 j hj).2.ext (Ext.freeze hb hl)⟩, h3.2.2⟩, by simp only [Sig.setLock, if_neg e]; exact h4⟩

/-- A call that hands back an array of numbers that it has made: a slice that is written no more. -/
theorem acalls_still {f : FuncId} {args : List SV} {K : SV → St → Prop} {st : St}
    (h : ACalls P f args (fun x s => (x = .slice .full 0 [] ∧ s = st ∧ K (.slice .imm 1 []) st) ∨
      ∃ (ver : Nat) (zs : List Int), x = .arr st.length ver zs.length ∧ s = st ++ [.arr ver 1 (zs.map fun z : Int => .sc (.int .i64 z))] ∧ K (.slice .imm 1 (zs.map fun z : Int => .sc (.int .i64 z))) st) st) : ACalls P f args K st := by
  intro σ w vs hI hR
  refine (h σ w vs hI hR).mono ?_
  rintro e w' ⟨v, x, s, σ', rfl, hk, hI', hr, hX⟩
  rcases hk with ⟨rfl, rfl, hk⟩ | ⟨ver, zs, rfl, rfl, hk⟩
  · exact ⟨v, _, _, σ', rfl, hk, hI', rep_nil_imm hr, hX⟩
  · have hid : (st ++ [Ob.arr ver 1 (zs.map fun z : Int => .sc (.int .i64 z))])[st.length]? = some (.arr ver 1 (zs.map fun z : Int => .sc (.int .i64 z))) := by simp
    have hI2 := hI'.drop hI.obIds
    have hX2 := hX.drop (Nat.le_refl _)
    cases hr with
    | arr _ _ _ v0 z cs v ho hk' hv hh =>
      rw [hid] at hk'; cases hk'
      obtain ⟨q1, q2⟩ := hh rfl
      rcases q2 with ⟨n1, n2, a, rfl⟩ | ⟨b, cap, vals, T, r1, rfl, r3, r4, r5⟩
      · have hz : zs = [] := List.eq_nil_of_length_eq_zero n2
        subst hz
        cases a with
        | none => exact ⟨_, _, st, σ', rfl, hk, hI2, .nil _ _ trivial, hX2⟩
        | some a =>
          refine ⟨_, _, st, σ', rfl, hk, hI2, ?_, hX2⟩
          exact .slice .imm 1 [] a 0 (fun _ _ => default) (Nat.le_refl _) (fun h => absurd rfl h) (fun i hi => by cases hi) (fun i j hi => by cases hi) (fun i j hi => by cases hi) trivial
      · rcases hI'.arrs _ ver 1 _ hid with ⟨m1, _⟩ | ⟨b', vals', T', m1, m2, m3, m4, m5⟩
        · rw [m1] at r1; cases r1
        rw [r1] at m1; cases m1
        rw [r4] at m2; cases m2
        have hb : ∀ i, i < st.length → σ'.μ i ≠ some b := by
          intro i hi e
          have := hI'.inj i st.length b (by simp; omega) (by simp) e r1
          omega
        have hl : (σ'.lock b).still = false := by rw [m5]; rfl
        simp only [List.length_map] at m3 m4
        refine ⟨_, _, st, _, rfl, hk, hI2.freeze hb hl (lt_of_some r4), ?_, hX2.trans (Ext.freeze hb hl)⟩
        have hln : (zs.map fun z : Int => SV.sc (.int .i64 z)).length = zs.length := by simp
        have key := Rep.slice (st := st) (σ := σ'.setLock b .all) (w := w') .imm 1 (zs.map fun z : Int => SV.sc (.int .i64 z)) ⟨b, 0, none⟩ cap (fun i _ => vals.getD i default) (by rw [hln]; exact r3) (fun _ => rfl)
          (fun i hi => by
            have hi' : i < zs.length := by simpa using hi
            simp [List.getD_eq_getElem?_getD, hi', SV.cells])
          (fun i j hi hj => by
            have hi' : i < zs.length := by simpa using hi
            have h2 : i < vals.size := by omega
            have : j = 0 := by omega
            subst this
            refine ⟨?_, has_all σ' b _⟩
            simp [World.cell?, r4, h2, Array.getD])
          (fun i j hi hj => by
            have hi' : i < zs.length := by simpa using hi
            have : j = 0 := by omega
            subst this
            have h9 := m4 i hi'
            have e : (zs.map fun z => SV.sc (.int .i64 z)).getD i .any = .sc (.int .i64 (zs.getD i 0)) := by simp [List.getD_eq_getElem?_getD, hi']
            rw [e] at h9
            rw [rep_sc h9, e]
            exact .sc _)
          trivial
        rw [hln] at key
        exact key

end Go.AL
set_option linter.unusedVariables false
namespace Go.AL
open Go Go.RowKit
variable {P : Program}

theorem ext_below {st : St} {σ : Sig} {w w' : World} (hI : Inv st σ w) (hb : Below w.heap.size w w') : Ext st σ w st σ w' where
  os := hb.os
  tape := hb.tape
  output := hb.output
  size := hb.size
  lock := fun b o v h k => by
    have hlt : b < w.heap.size := by
      unfold World.cell? at k
      cases hx : w.heap[b]? with
      | none => simp [hx] at k
      | some x => exact lt_of_some hx
    refine ⟨h, ?_⟩
    unfold World.cell? at k ⊢
    rw [hb.block b hlt]; exact k
  all := fun b hlt _ => ⟨rfl, hb.block b hlt⟩
  kcells := fun id l h => ⟨⟨l, h⟩, rfl⟩
  ktok := fun id v h => ⟨v, h, Nat.le_refl _, fun _ => ⟨rfl, fun b hb' => ⟨rfl, hb.block b (hI.tok id v b h hb').1⟩⟩⟩
  karrs := fun id v z cs h => ⟨v, cs, h, Nat.le_refl _, fun _ => ⟨rfl, rfl, fun b vals T fr _ hh => ⟨vals, by rw [hb.block b (lt_of_some hh)]; exact hh, rfl⟩⟩⟩
  kmaps := fun id es h => ⟨⟨es, h⟩, rfl, fun b ents clock _ hh => ⟨ents, clock, by rw [hb.block b (lt_of_some hh)]; exact hh, Nat.le_refl _, fun _ _ => rfl⟩⟩

theorem inv_below {st : St} {σ : Sig} {w w' : World} (hI : Inv st σ w) (hb : Below w.heap.size w w') : Inv st σ w' where
  cells := fun id l h => by
    obtain ⟨b, cs, T, h1, h2, h3, h4, h5⟩ := hI.cells id l h
    exact ⟨b, cs, T, h1, by rw [hb.block b (lt_of_some h2)]; exact h2, h3, fun j hj => (h4 j hj).ext (ext_below hI hb), h5⟩
  tok := fun id v b h hb' => by
    obtain ⟨h1, h2⟩ := hI.tok id v b h hb'
    exact ⟨Nat.lt_of_lt_of_le h1 hb.size, h2⟩
  inj := hI.inj
  fresh := fun b h => hI.fresh b (Nat.le_trans hb.size h)
  arrs := fun id v z cs h => (hI.arrs id v z cs h).imp (fun h => h) fun ⟨b, vals, T, h1, h2, h3, h4, h5⟩ => ⟨b, vals, T, h1, by rw [hb.block b (lt_of_some h2)]; exact h2, h3, fun j hj => (h4 j hj).ext (ext_below hI hb), h5⟩
  maps := fun id es h => by
    obtain ⟨b, ents, clock, h1, h2, h3, h4⟩ := hI.maps id es h
    exact ⟨b, ents, clock, h1, by rw [hb.block b (lt_of_some h2)]; exact h2, ⟨h3.1, fun j hj => ⟨(h3.2.1 j hj).1, (h3.2.1 j hj).2.ext (ext_below hI hb)⟩, h3.2.2⟩, h4⟩

theorem args_one {st : St} {σ : Sig} {w : World} {x : SV} {vs : Array Value} (hR : RepArgs st σ w [x] vs) : ∃ v, vs = #[v] ∧ Rep st σ w x v := by
  refine ⟨vs.getD 0 undef, ?_, by simpa using hR.2 0 (by simp)⟩
  have := hR.1
  simp only [List.length_cons, List.length_nil] at this
  apply Array.ext
  · simpa using this
  · intro i h1 h2
    have : i = 0 := by simp at h2; omega
    subst this
    simp [Array.getD, h1]

/-- What is handed back is told to be less. -/
theorem acalls_as {f : FuncId} {args : List SV} {K : SV → St → Prop} {st : St} (h : ACalls P f args (fun x s => ∃ x', (∀ σ w v, Rep s σ w x v → Rep s σ w x' v) ∧ K x' s) st) : ACalls P f args K st := by
  intro σ w vs hI hR
  refine (h σ w vs hI hR).mono ?_
  rintro e w' ⟨v, x, s, σ', rfl, ⟨x', hx, hk⟩, hI', hr, hX⟩
  exact ⟨v, x', s, σ', rfl, hk, hI', hx _ _ _ hr, hX⟩

theorem rep_empty {st : St} {σ : Sig} {w : World} {v : Value} {m : Mode} {z z' : Nat} (h : Rep st σ w (.slice m z []) v) : Rep st σ w (.slice .imm z' []) v := by
  generalize hl : ([] : List SV) = l at h
  generalize hx : SV.slice m z l = x at h
  cases h with
  | nil => cases hx; exact .nil .imm z' trivial
  | slice m z l a cap =>
    cases hx
    subst hl
    exact .slice .imm z' [] a cap (fun _ _ => default) (Nat.zero_le _) (fun h => absurd rfl h) (fun i hi => by cases hi) (fun i j hi => by cases hi) (fun i j hi => by cases hi) trivial
  | _ => cases hx

end Go.AL
set_option linter.unusedVariables false
namespace Go.AL
open Go Go.RowKit
variable {P : Program}

theorem calls_wide {f : FuncId} {args : Array Value} {w : World} {R : Ending → World → Prop} (h : CallsIn Fence.wide 0 P f args w R) : Calls P f args w R := callsIn_wide.1 h

/-- What stands when such a function's code has ended: a mark may be pending. -/
def Marked (w0 : World) (st : St) (σ : Sig) (a : Act) (w : World) : Prop :=
  a.defers = [] ∨ ∃ D, a.defers = [{ target := .collected D, args := #[] }] ∧ w0.heap.size ≤ D ∧ (σ.lock D).still = true ∧ w.heap[D]? = some (.deferred (some []))

def MPost (P : Program) (fn : Func) (K : SV → St → Prop) (st : St) (σ : Sig) (w : World) : Exit → Act → World → Prop := fun e a' w' =>
  ∃ env' st' σ', RetQ P fn K e env' st' ∧ Inv st' σ' w' ∧ RepEnv st' σ' w' env' a'.tmps ∧ Ext st σ w st' σ' w' ∧ Marked w st' σ' a' w'

theorem cell?_putObj {w : World} {b : Nat} {o o' : Obj} (h : w.heap[b]? = some o) (ho : o.isCells = false) (ho' : o'.isCells = false) (a : Addr) : (w.putObj b o').cell? a = w.cell? a := by
  have hlt := lt_of_some h
  unfold World.cell?
  by_cases e : a.block = b
  · rw [e, h]
    have h2 : (w.putObj b o').heap[b]? = some o' := by simp [World.putObj, hlt]
    rw [h2]
    cases o with
    | cells => exact absurd ho (by simp [Obj.isCells])
    | _ => cases o' with
      | cells => exact absurd ho' (by simp [Obj.isCells])
      | _ => rfl
  · have h2 : (w.putObj b o').heap[a.block]? = w.heap[a.block]? := by simp [World.putObj, Array.getElem?_setIfInBounds_ne (Ne.symm e)]
    rw [h2]

theorem acalls_marks {f : FuncId} {fn : Func} {c : Code} {args : List SV} {K : SV → St → Prop} {st : St} (hf : P.funcs[f]? = some fn) (hb : fn.body = some c)
    (h : ∀ σ w a, Inv st σ w → RepEnv st σ w (args ++ List.replicate (fn.ntmps - args.length) .any) a.tmps → a.defers = [] → c.wp P (MPost P fn K st σ w) a w) : ACalls P f args K st := by
  intro σ w vs hI hR
  refine calls_wide (callsIn_of_wp_marks hf hb trivial (wpIn_wide.2 (wp_mono (h σ w { tmps := vs ++ Array.replicate (fn.ntmps - vs.size) undef, defers := [] } hI ⟨by simp [hR.1], fun i hi => ?_⟩ rfl) fun e a' w' hp => ?_)))
  · rw [Array.getD_eq_getD_getElem?, List.getD_eq_getElem?_getD]
    by_cases c1 : i < args.length
    · rw [List.getElem?_append_left c1, Array.getElem?_append_left (by rw [hR.1]; exact c1)]
      have := hR.2 i c1
      rwa [Array.getD_eq_getD_getElem?, List.getD_eq_getElem?_getD] at this
    · rw [List.getElem?_append_right (by omega), List.getElem?_replicate]
      split <;> exact .any _
  · obtain ⟨env', st', σ', ⟨he, l, hl, hk⟩, hI', hR', hX, hm⟩ := hp
    rcases hm with hd | ⟨D, hd, hD, hst, hh⟩
    · obtain ⟨v, h1, h2⟩ := run_results (P := P) hI' hR' hl
      have key : LeavesInM Fence.wide 0 P fn a'.tmps (fun e w' => ∃ v x st' σ', e = .returned v ∧ K x st' ∧ Inv st' σ' w' ∧ Rep st' σ' w' x v ∧ Ext st σ w st' σ' w') a'.defers .returning w' := by
        rw [hd]
        exact ⟨v, h1, v, _, st', σ', rfl, hk, hI', h2, hX⟩
      cases e <;> simp only at he <;> exact key
    · have hsw : Swap st' σ' w' (w'.putObj D (.deferred none)) D := by
        refine ⟨fun a => cell?_putObj hh rfl rfl a, fun c hc => ?_, ?_, rfl, rfl, rfl, hI'.still_free hst⟩
        · simp [World.putObj, Array.getElem?_setIfInBounds_ne (Ne.symm hc)]
        · simp [World.putObj]
      have hI2 := hI'.swap hsw
      have hX2 := hX.swap hsw hI hD
      have hR2 : RepEnv st' σ' (w'.putObj D (.deferred none)) env' a'.tmps := ⟨hR'.1, fun i hi => (hR'.2 i hi).swap hsw⟩
      obtain ⟨v, h1, h2⟩ := run_results (P := P) hI2 hR2 hl
      have key : LeavesInM Fence.wide 0 P fn a'.tmps (fun e w' => ∃ v x st' σ', e = .returned v ∧ K x st' ∧ Inv st' σ' w' ∧ Rep st' σ' w' x v ∧ Ext st σ w st' σ' w') a'.defers .returning w' := by
        rw [hd]
        exact ⟨by simp, .inl ⟨D, _, rfl, run_takeDeferred hh, ⟨v, h1, v, _, st', σ', rfl, hk, hI2, h2, hX2⟩⟩⟩
      cases e <;> simp only at he <;> exact key

/-- What is left of such a function's code comes to its end. -/
def RestM (P : Program) (fn : Func) (K : SV → St → Prop) (st0 : St) (σ0 : Sig) (w0 : World) (c : Code) (env : List SV) (st : St) : Prop :=
  ∀ σ w a, Inv st σ w → RepEnv st σ w env a.tmps → a.defers = [] → Ext st0 σ0 w0 st σ w → c.wp P (MPost P fn K st0 σ0 w0) a w

def restQ (P : Program) (fn : Func) (K : SV → St → Prop) (st0 : St) (σ0 : Sig) (w0 : World) (c : Code) : Exit → List SV → St → Prop
  | .normal, env, st => RestM P fn K st0 σ0 w0 c env st
  | e, env, st => RetQ P fn K e env st

section
variable {fn : Func} {K : SV → St → Prop} {st0 : St} {σ0 : Sig} {w0 : World} {c A B : Code} {env : List SV} {st : St}

theorem restM_seq (h : AWp P A (restQ P fn K st0 σ0 w0 B) env st) : RestM P fn K st0 σ0 w0 (.seq A B) env st := by
  intro σ w a hI hR hd hX
  refine wp_seq (wp_mono (h σ w a hI hR hd) fun e a' w' hp => ?_)
  obtain ⟨hd', env', st', σ', hq, hI', hR', hX'⟩ := hp
  cases e with
  | normal => exact hq σ' w' a' hI' hR' hd' (hX.trans hX')
  | _ => exact ⟨env', st', σ', hq, hI', hR', hX.trans hX', .inl hd'⟩

theorem wp_mark (h : AWp P c (RetQ P fn K) env st) {σ : Sig} {w : World} {a : Act} {D : Nat} (hI : Inv st σ w) (hR : RepEnv st σ w env a.tmps) (hd : a.defers = [{ target := .collected D, args := #[] }]) (hX : Ext st0 σ0 w0 st σ w)
    (hD : w0.heap.size ≤ D) (hs : (σ.lock D).still = true) (hh : w.heap[D]? = some (.deferred (some []))) : c.wp P (MPost P fn K st0 σ0 w0) a w := by
  refine wp_mono (h σ w a hI hR hd) fun e a' w' hp => ?_
  obtain ⟨hd', env', st', σ', hq, hI', hR', hX'⟩ := hp
  obtain ⟨x1, x2⟩ := hX'.all D (lt_of_some hh) hs
  exact ⟨env', st', σ', hq, hI', hR', hX.trans hX', .inr ⟨D, hd', hD, by rw [x1]; exact hs, by rw [x2]; exact hh⟩⟩
end

theorem acalls_restM {f : FuncId} {fn : Func} {c : Code} {args : List SV} {K : SV → St → Prop} {st : St} (hf : P.funcs[f]? = some fn) (hb : fn.body = some c)
    (h : ∀ σ w, Inv st σ w → RestM P fn K st σ w c (args ++ List.replicate (fn.ntmps - args.length) .any) st) : ACalls P f args K st :=
  acalls_marks hf hb fun σ w a hI hR hd => h σ w hI σ w a hI hR hd (Ext.refl _ _ _)

end Go.AL
set_option linter.unusedVariables false
namespace Go.AL
open Go Go.RowKit
variable {P : Program}

/-- A mark that was laid behind all that stands is locked. -/
theorem lay_mark {st : St} {σ : Sig} {w W : World} (hI : Inv st σ w) (hB : Below w.heap.size w W) {D : Nat} (hD : w.heap.size ≤ D) {o : Obj} (hh : W.heap[D]? = some o) :
    Inv st (σ.setLock D .all) W ∧ Ext st σ w st (σ.setLock D .all) W ∧ ((σ.setLock D .all).lock D).still = true := by
  have hb : ∀ i, i < st.length → σ.μ i ≠ some D := fun i hi e => by have := hI.mu_lt hi e; omega
  have hl : (σ.lock D).still = false := by rw [hI.fresh D hD]; rfl
  refine ⟨(inv_below hI hB).freeze hb hl (lt_of_some hh), (ext_below hI hB).trans (Ext.freeze hb hl), by simp [Sig.setLock, Lock.still]⟩

/-- An object of one cell, seen from the world. -/
theorem Inv.cell1 {st : St} {σ : Sig} {w : World} (hI : Inv st σ w) {id : Nat} {x : SV} (h : st[id]? = some (.cells [x])) : ∃ b v T, σ.μ id = some b ∧ w.heap[b]? = some (.cells #[v] T (0, 0)) := by
  obtain ⟨b, cs, T, h1, h2, h3, h4, h5⟩ := hI.cells id [x] h
  obtain ⟨l⟩ := cs
  match l, h3 with
  | [v], _ => exact ⟨b, v, T, h1, h2⟩

/-- .. is written. -/
theorem Inv.set1 {st : St} {σ : Sig} {w : World} (hI : Inv st σ w) {id b : Nat} {x : SV} (h : st[id]? = some (.cells [x])) (hb : σ.μ id = some b) (v : Value) :
    Inv (st.set id (.cells [.sc v])) σ (w.setCell ⟨b, 0, none⟩ v) ∧ Ext st σ w (st.set id (.cells [.sc v])) σ (w.setCell ⟨b, 0, none⟩ v) := by
  obtain ⟨b', cs, T, h1, h2, h3, h4, h5⟩ := hI.cells id [x] h
  rw [hb] at h1; cases h1
  have hoth : ∀ c, c ≠ b → (w.setCell ⟨b, 0, none⟩ v).heap[c]? = w.heap[c]? := fun c hc => by simp [World.setCell, Array.getElem?_modify, Ne.symm hc]
  have hnew : (w.setCell ⟨b, 0, none⟩ v).heap[b]? = some (.cells (cs.setIfInBounds 0 v) T (0, 0)) := by simp [World.setCell, Array.getElem?_modify, h2]
  have hsz : (w.setCell ⟨b, 0, none⟩ v).heap.size = w.heap.size := by simp [World.setCell]
  simp only [List.length_cons, List.length_nil] at h3
  refine ⟨Inv.write (cs := cs.setIfInBounds 0 v) (T := T) hI h hb h5 rfl rfl rfl hsz hoth hnew (by simp [h3]) (fun j hj => ?_), Ext.write hI h hb h5 rfl rfl rfl hsz hoth⟩
  have : j = 0 := by simp at hj; omega
  subst this
  have e : (cs.setIfInBounds 0 v).getD 0 default = v := by simp [Array.getD, h3]
  rw [e]
  exact .sc v

/-! A function with a range over a function, walked piece by piece. -/
section
variable {fn : Func} {K : SV → St → Prop} {st0 : St} {σ0 : Sig} {w0 : World} {c A B : Code} {env : List SV} {st : St} {rs : Array ResultVar}

def restR (P : Program) (fn : Func) (rs : Array ResultVar) (K : SV → St → Prop) (st0 : St) (σ0 : Sig) (w0 : World) (c : Code) : Exit → List SV → St → Prop
  | .normal, env, st => RestM P fn K st0 σ0 w0 c env st
  | e, env, st => RetR P rs.toList K e env st

theorem restR_n : restR P fn rs K st0 σ0 w0 c .normal env st = RestM P fn K st0 σ0 w0 c env st := rfl
theorem restR_r : restR P fn rs K st0 σ0 w0 c .ret env st = RetR P rs.toList K .ret env st := rfl

theorem retR_q (hr : fn.results = rs) {e : Exit} {env : List SV} {st : St} (hq : RetR P rs.toList K e env st) : RetQ P fn K e env st := by
  subst hr
  cases e <;> simp only [RetR] at hq <;> first | exact hq.elim | exact ⟨trivial, _, getD_of (d := []) hq.1, hq.2⟩

theorem restM_go (M : List Nat) (hr : fn.results = rs) (h : cSpec P M A (restR P fn rs K st0 σ0 w0 B) env st) : RestM P fn K st0 σ0 w0 (.seq A B) env st := by
  refine restM_seq ((awp_c h).mono fun e env st hq => ?_)
  cases e with
  | normal => exact hq
  | exit id => exact hq.elim
  | goto l => exact hq.elim
  | ret => exact retR_q (e := .ret) hr hq
  | panic ch => exact hq.elim
  | outgrown => exact hq.elim

/-- The piece that ranges, and what stands behind it. -/
def Rest2 (P : Program) (fn : Func) (K : SV → St → Prop) (st0 : St) (σ0 : Sig) (w0 : World) (C B : Code) (env : List SV) (st : St) : Prop :=
  ∀ σ w a, Inv st σ w → RepEnv st σ w env a.tmps → a.defers = [] → Ext st0 σ0 w0 st σ w → C.wp P (fun e a' w' => match e with | .normal => B.wp P (MPost P fn K st0 σ0 w0) a' w' | e => MPost P fn K st0 σ0 w0 e a' w') a w

def rest2R (P : Program) (fn : Func) (rs : Array ResultVar) (K : SV → St → Prop) (st0 : St) (σ0 : Sig) (w0 : World) (C B : Code) : Exit → List SV → St → Prop
  | .normal, env, st => Rest2 P fn K st0 σ0 w0 C B env st
  | e, env, st => RetR P rs.toList K e env st
theorem rest2R_n {C : Code} : rest2R P fn rs K st0 σ0 w0 C B .normal env st = Rest2 P fn K st0 σ0 w0 C B env st := rfl

theorem restM_go2 (M : List Nat) {C : Code} (hr : fn.results = rs) (h : cSpec P M A (rest2R P fn rs K st0 σ0 w0 C B) env st) : RestM P fn K st0 σ0 w0 (.seq (.seq A C) B) env st := by
  intro σ w a hI hR hd hX
  refine wp_seq (wp_seq (wp_mono (awp_c h σ w a hI hR hd) fun e a' w' hp => ?_))
  obtain ⟨hd', env', st', σ', hq, hI', hR', hX'⟩ := hp
  cases e with
  | normal => exact wp_mono (hq σ' w' a' hI' hR' hd' (hX.trans hX')) fun e a2 w2 h2 => by cases e <;> exact h2
  | exit id => exact hq.elim
  | goto l => exact hq.elim
  | ret => exact ⟨env', st', σ', retR_q (e := .ret) hr hq, hI', hR', hX.trans hX', .inl hd'⟩
  | panic ch => exact hq.elim
  | outgrown => exact hq.elim
end

end Go.AL
set_option linter.unusedVariables false
namespace Go.AL
variable {P : Program}

def isStore : Op → Bool
  | .store _ _ _ => true
  | _ => false

def drawU (P : Program) (M : List Nat) (ds : List (Option Tmp)) (R : St → Prop) (s0 : St) : List Nat → List Oper → List SV → St → (List SV → St → Prop) → Prop
  | [], [], env, st, K => K env st
  | 0 :: tg, o :: r, env, st, K => d1Spec P M ds o env s0 fun x => drawU P M ds R s0 tg r (putE env o.dst x) st K
  | 1 :: tg, o :: r, env, st, K => isStore o.op = true ∧ o.guard = none ∧ effSpec P M o (onlyAt (opTmps o.op.operands.toList) 0 env) st fun x s => R s ∧ drawU P M ds R s0 tg r (putE env o.dst x) s K
  | 2 :: tg, o :: r, env, st, K => d1Spec P M ds o env st fun x => (∀ s, R s → d1Spec P M ds o env s fun y => y = x) ∧ drawU P M ds R s0 tg r (putE env o.dst x) st K
  | 3 :: tg, o :: r, env, st, K => ∃ X s', effSpec P M o (onlyAt (opTmps o.op.operands.toList) 0 env) st (fun x s => x = X ∧ s = s') ∧ o.guard = none ∧ R s' ∧ drawU P M ds R s0 tg r (putE env o.dst X) s' K
  | _, _, _, _, _ => False

section
variable {M : List Nat} {ds : List (Option Tmp)} {R : St → Prop} {s0 st : St} {tg : List Nat} {o : Oper} {r : List Oper} {env : List SV} {K : List SV → St → Prop}
theorem drawU_n : drawU P M ds R s0 [] [] env st K = K env st := rfl
theorem drawU_0 : drawU P M ds R s0 (0 :: tg) (o :: r) env st K = d1Spec P M ds o env s0 fun x => drawU P M ds R s0 tg r (putE env o.dst x) st K := rfl
theorem drawU_1 : drawU P M ds R s0 (1 :: tg) (o :: r) env st K = (isStore o.op = true ∧ o.guard = none ∧ effSpec P M o (onlyAt (opTmps o.op.operands.toList) 0 env) st fun x s => R s ∧ drawU P M ds R s0 tg r (putE env o.dst x) s K) := rfl
theorem drawU_2 : drawU P M ds R s0 (2 :: tg) (o :: r) env st K = d1Spec P M ds o env st fun x => (∀ s, R s → d1Spec P M ds o env s fun y => y = x) ∧ drawU P M ds R s0 tg r (putE env o.dst x) st K := rfl
theorem drawU_3 : drawU P M ds R s0 (3 :: tg) (o :: r) env st K = ∃ X s', effSpec P M o (onlyAt (opTmps o.op.operands.toList) 0 env) st (fun x s => x = X ∧ s = s') ∧ o.guard = none ∧ R s' ∧ drawU P M ds R s0 tg r (putE env o.dst X) s' K := rfl
theorem isStore_s {t : TypeId} {a b : Operand} : isStore (.store t a b) = true := rfl
end

def ksOf : Nat → List Nat → List Nat
  | _, [] => []
  | n, t :: r => if t == 1 || t == 3 then n :: ksOf (n + 1) r else ksOf (n + 1) r
def elOf : Nat → List Nat → List Nat
  | _, [] => []
  | n, t :: r => if t == 0 then n :: elOf (n + 1) r else elOf (n + 1) r
def tagsOk (ks el : List Nat) : Nat → List Nat → Bool
  | _, [] => true
  | n, t :: r => (ks.contains n == (t == 1 || t == 3)) && (el.contains n == (t == 0)) && tagsOk ks el (n + 1) r

theorem store_ext {M : List Nat} {o : Oper} {env : List SV} {st : St} {K : SV → St → Prop} (hs : isStore o.op = true) (h : effSpec P M o env st K) : ∃ X s', effSpec P M o env st (fun x s => x = X ∧ s = s') ∧ K X s' := by
  unfold isStore at hs
  split at hs
  · rename_i t x y ho
    unfold effSpec at h ⊢
    rw [ho] at h ⊢
    simp only at h ⊢
    obtain ⟨h1, h2⟩ := h
    unfold storeSpec at h2 ⊢
    split at h2
    · rename_i e
      rw [e] at *
      obtain ⟨a, b, c, d, f, g⟩ := h2
      exact ⟨_, _, ⟨h1, a, b, c, d, f, rfl, rfl⟩, g⟩
    · rename_i e
      rw [e] at *
      obtain ⟨a, b, c, d, f, g⟩ := h2
      exact ⟨_, _, ⟨h1, a, b, c, d, f, rfl, rfl⟩, g⟩
    · exact h2.elim
  · cases hs

theorem chainT {M : List Nat} {ops : Array Oper} {ks el : List Nat} {R : St → Prop} {s0 : St} {K : List SV → St → Prop} : ∀ (n : Nat) (tg : List Nat) (l : List Oper) (env : List SV) (st : St), ops.toList.drop n = l → tagsOk ks el n tg = true → R st →
    drawU P M (ops.toList.map (·.dst)) R s0 tg l env st K →
    ∃ (F : Nat → List SV) (G : Nat → St) (X : Nat → SV), F n = env ∧ G n = st ∧ (∀ i, n ≤ i → R (G i)) ∧
      (∀ i o, n ≤ i → ops[i]? = some o → F (i + 1) = putE (F i) o.dst (X i) ∧
        (if ks.contains i then EffFact P ops (G i) (G (i + 1)) o (F i) (X i) else G (i + 1) = G i ∧ ∀ s, (if el.contains i then s = s0 else R s) → OpFact P ops s o (F i) (X i))) ∧
      K (F (n + l.length)) (G (n + l.length))
  | n, [], [], env, st, hl, ht, hr, h => by
    refine ⟨fun _ => env, fun _ => st, fun _ => .any, rfl, rfl, fun _ _ => hr, fun i o hi ho => ?_, h⟩
    have h1 := lt_of_some ho
    have h2 := congrArg List.length hl
    simp at h2
    omega
  | n, t :: tg, o :: r, env, st, hl, htg, hrs, h => by
    have ho : ops[n]? = some o := by
      have : (ops.toList.drop n)[0]? = some o := by rw [hl]; rfl
      rw [List.getElem?_drop, Nat.add_zero, Array.getElem?_toList] at this
      exact this
    have hr : ops.toList.drop (n + 1) = r := by rw [← List.drop_drop, hl]; rfl
    simp only [tagsOk, Bool.and_eq_true, beq_iff_eq] at htg
    obtain ⟨⟨t1, t2⟩, t3⟩ := htg
    have fin : ∀ (X0 : SV) (s' : St), R s' → drawU P M (ops.toList.map (·.dst)) R s0 tg r (putE env o.dst X0) s' K →
        (if ks.contains n then EffFact P ops st s' o env X0 else s' = st ∧ ∀ s, (if el.contains n then s = s0 else R s) → OpFact P ops s o env X0) →
        ∃ (F : Nat → List SV) (G : Nat → St) (X : Nat → SV), F n = env ∧ G n = st ∧ (∀ i, n ≤ i → R (G i)) ∧
          (∀ i o, n ≤ i → ops[i]? = some o → F (i + 1) = putE (F i) o.dst (X i) ∧
            (if ks.contains i then EffFact P ops (G i) (G (i + 1)) o (F i) (X i) else G (i + 1) = G i ∧ ∀ s, (if el.contains i then s = s0 else R s) → OpFact P ops s o (F i) (X i))) ∧
          K (F (n + (o :: r).length)) (G (n + (o :: r).length)) := by
      intro X0 s' hrs' hrest hfact
      obtain ⟨F, G, X, f1, f2, f3, f4, f5⟩ := chainT (n + 1) tg r _ _ hr t3 hrs' hrest
      refine ⟨fun i => if i = n then env else F i, fun i => if i = n then st else G i, fun i => if i = n then X0 else X i, by simp, by simp, fun i hi => ?_, fun i p hi hp => ?_, ?_⟩
      · by_cases e : i = n
        · simp only [if_pos e]; exact hrs
        · simp only [if_neg e]; exact f3 i (by omega)
      · by_cases e : i = n
        · subst e
          rw [ho] at hp; cases hp
          simp only [if_true, show ¬ i + 1 = i by omega, if_false]
          refine ⟨f1, ?_⟩
          rw [f2]
          exact hfact
        · simp only [if_neg e, show ¬ i + 1 = n by omega, if_false]
          exact f4 i p (by omega) hp
      · simp only [List.length_cons]
        rw [if_neg (by omega), if_neg (by omega), show n + (r.length + 1) = n + 1 + r.length by omega]
        exact f5
    have turn : ∀ (X0 : SV) (s' : St), ks.contains n = true → effSpec P M o (onlyAt (opTmps o.op.operands.toList) 0 env) st (fun x s => x = X0 ∧ s = s') → o.guard = none →
        (if ks.contains n then EffFact P ops st s' o env X0 else s' = st ∧ ∀ s, (if el.contains n then s = s0 else R s) → OpFact P ops s o env X0) := by
      intro X0 s' hk h1 h2
      rw [if_pos hk]
      intro σ w a env' hI hR hs hlen
      refine ⟨h2, fun _ _ _ => False, fun _ _ _ h => h, ?_⟩
      refine upon_mono ?_ (fun _ _ _ h => h) (aop_eff h1 σ w a hI (rep_only hR hs hlen))
      rintro a' w' ⟨v, x, s1, σ', rfl, ⟨rfl, rfl⟩, hI', hr', hX⟩
      exact ⟨v, σ', rfl, hI', hX, hr'⟩
    match t, t1, t2, h with
    | 0, t1, t2, h =>
      rw [drawU_0] at h
      obtain ⟨X0, h1, h2⟩ := fact_of h
      refine fin X0 st hrs h2 ?_
      have k1 : ks.contains n = false := t1
      have k2 : el.contains n = true := t2
      rw [k1, k2]
      simp only [Bool.false_eq_true, if_false, if_true]
      exact ⟨trivial, fun s e => by rw [e]; exact h1⟩
    | 1, t1, t2, h =>
      rw [drawU_1] at h
      obtain ⟨hs, hg, he⟩ := h
      obtain ⟨X0, s', h1, h2, h3⟩ := store_ext hs he
      exact fin X0 s' h2 h3 (turn X0 s' t1 h1 hg)
    | 2, t1, t2, h =>
      rw [drawU_2] at h
      obtain ⟨X0, h1, h2, h3⟩ := fact_of h
      refine fin X0 st hrs h3 ?_
      have k1 : ks.contains n = false := t1
      have k2 : el.contains n = false := t2
      rw [k1, k2]
      simp only [Bool.false_eq_true, if_false]
      refine ⟨trivial, fun s hs => ?_⟩
      obtain ⟨X1, g1, rfl⟩ := fact_of (h2 s hs)
      exact g1
    | 3, t1, t2, h =>
      rw [drawU_3] at h
      obtain ⟨X0, s', h1, h2, h3, h4⟩ := h
      exact fin X0 s' h3 h4 (turn X0 s' t1 h1 h2)
    | n + 4, _, _, h => exact h.elim
  | n, [], o :: r, env, st, hl, ht, hr, h => h.elim
  | n, 0 :: tg, [], env, st, hl, ht, hr, h => h.elim
  | n, 1 :: tg, [], env, st, hl, ht, hr, h => h.elim
  | n, 2 :: tg, [], env, st, hl, ht, hr, h => h.elim
  | n, 3 :: tg, [], env, st, hl, ht, hr, h => h.elim
  | n, (k + 4) :: tg, [], env, st, hl, ht, hr, h => h.elim

def tagsAll (ops : Array Oper) (tags : List Nat) : Bool :=
  flowOk ops && ordOk ops (ksOf 0 tags) && (ksOf 0 tags).all (· < ops.size) && (elOf 0 tags).all (early ops (ksOf 0 tags)) && tagsOk (ksOf 0 tags) (elOf 0 tags) 0 tags

theorem awp_drawT (M : List Nat) (tags : List Nat) (R : St → Prop) {id : Nat} {ops : Array Oper} {Q : Exit → List SV → St → Prop} {env : List SV} {st : St} (hm : P.follows .mixedOrders = true) (ht : tagsAll ops tags = true)
    (hR : R st) (h : drawU P M (ops.toList.map (·.dst)) R st tags ops.toList env st fun e s => Q .normal e s) : AWp P (.region id ops true) Q env st := by
  simp only [tagsAll, Bool.and_eq_true] at ht
  obtain ⟨⟨⟨⟨h1, h2⟩, h3⟩, h4⟩, h5⟩ := ht
  exact awp_chain _ _ R hm h1 h2 h3 h4 (chainT 0 tags ops.toList env st rfl h5 hR h)

end Go.AL
namespace Go.AL
attribute [go_sem] imp_self implies_true false_imp_iff true_imp_iff decide_true decide_false Int.toNat_natCast Int.toNat_zero Int.toNat_one Int.natCast_nonneg Int.le_refl Nat.le_refl Nat.add_zero Bool.not_true Bool.not_false Bool.and_false Bool.false_and Bool.or_true Bool.true_or Bool.or_false Bool.false_or call_funcH c_drawH c_loopH gAll_F gIf_F pickB_true pickB_false Array.toList_append List.cons_append List.nil_append opTmps List.contains_cons List.contains_nil
end Go.AL
