/- The abstract layer, part 30: a range over a map, as code. -/
import Derived.Test.YtnjiphlokjfdlaaDoorA7
import Derived.Sort.Row
import Derived.Sort.Grow
import Derived.Below
set_option linter.unusedVariables false
namespace Go.AL
variable {P : Program}
theorem wpOps_value {ops : Array Oper} {Q : Exit → Act → World → Prop} {i : Nat} {r : List Nat} {o : Oper} {a : Act} {w w' : World} {v : Value} (ho : ops[i]? = some o) (hg : o.guard = none)
    (hrun : (execOp a.eval o).run P w = .ok (.value v) w') (h : wpOps P ops Q r (a.put o.dst v) w') : wpOps P ops Q (i :: r) a w := by
  simp only [wpOps, ho, Region.wanted, hg, if_true]
  refine .inl ?_
  unfold Oper.wp
  rw [hrun]
  exact h
theorem wp_loop_J {c : Code} {Q : Exit → Act → World → Prop} (J : Nat → Act → World → Prop) {n : Nat} {a : Act} {w : World} (h0 : J n a w)
    (round : ∀ m a' w', J m a' w' → c.wp P (fun e a2 w2 => match e with | .normal => ∃ m', m' < m ∧ J m' a2 w2 | e => Q e a2 w2) a' w') : (Code.loop c).wp P Q a w := by
  have key : ∀ m, ∀ a' w', J m a' w' → ∀ (b : Frame) (k : List Item) (cs : List Frame), ∃ e a2 w2, Q e a2 w2 ∧ Arrives P (lone (b.at a' (.code c :: .inLoop c :: k)) cs w') b k cs e a2 w2 := by
    intro m
    induction m using Nat.strongRecOn with
    | _ m ih =>
      intro a' w' hJ b k cs
      obtain ⟨e, a1, w1, hq, harr⟩ := round m a' w' hJ b (.inLoop c :: k) cs
      cases e with
      | normal =>
        obtain ⟨m1, hlt, hJ1⟩ := hq
        obtain ⟨e2, a2, w2, hq2, harr2⟩ := ih m1 hlt a1 w1 hJ1 b k cs
        exact ⟨e2, a2, w2, hq2, .of_steps (Steps.trans harr (.one step_inLoop)) harr2⟩
      | exit id => exact ⟨_, a1, w1, hq, .pass (x := .inLoop c) rfl (fun _ _ => .inl (by simp)) harr⟩
      | goto l => exact ⟨_, a1, w1, hq, .pass (x := .inLoop c) rfl (fun _ _ => .inl (by simp)) harr⟩
      | ret => exact ⟨_, a1, w1, hq, .pass (x := .inLoop c) rfl (fun _ _ => .inl (by simp)) harr⟩
      | panic ch => exact ⟨_, a1, w1, hq, .pass (x := .inLoop c) rfl (fun _ _ => .inl (by simp)) harr⟩
      | outgrown => exact ⟨_, a1, w1, hq, .pass (x := .inLoop c) rfl (fun _ _ => .inl (by simp)) harr⟩
  intro b k cs
  obtain ⟨e, a', w', hq, harr⟩ := key n a w h0 b k cs
  exact ⟨e, a', w', hq, .of_steps (.one step_loop) harr⟩
theorem eval_put_same {a : Act} {d : Nat} {v : Value} (h : d < a.tmps.size) : (a.put (some d) v).eval (.tmp d) = v := by
  simp [Act.put, Act.eval, Array.getD, h]
def roundQ (X Y : Nat) (Q : Exit → List SV → St → Prop) (I : List SV → St → Prop) : Exit → List SV → St → Prop :=
  blockQ Y (thenQ (fun e s => ∃ e', LeEnv e e' ∧ I e' s) (blockQ X Q))
theorem awp_rangeMap (M : List Nat) {x a1 a2 d1 d2 d3 X Y mid : Nat} {t : TypeId} {i0 i1 i2 : Nat} {o1 o2 o3 o4 o5 : Oper} {r : List Oper} {rest : Code} {ops : Array Oper} {env : List SV} {st : St} {Q : Exit → List SV → St → Prop} {es : List (Value × SV)}
    (h1 : o1.op = .move (.tmp x) ∧ o1.dst = some a1 ∧ o1.guard = none) (h2 : o2.op = .range t (.tmp a1) ∧ o2.dst = some a2 ∧ o2.guard = none)
    (h3 : o3.op = .next (.tmp a2) false ∧ o3.dst = some d1 ∧ o3.guard = none) (h4 : o4.op = .extract (.tmp d1) 0 ∧ o4.dst = some d2 ∧ o4.guard = none)
    (h5 : o5.op = .entry (.tmp a2) ∧ o5.dst = some d3 ∧ o5.guard = none) (hops : ops.toList = o5 :: r)
    (hn1 : a2 ≠ d1) (hn2 : a2 ≠ d2) (hn3 : d1 ≠ d2) (hl : a1 < env.length ∧ a2 < env.length ∧ d1 < env.length ∧ d2 < env.length)
    (hx : env.getD x .any = .mp mid) (hes : st[mid]? = some (.map es)) (hu : (aMap P t).isSome = true)
    (I : SV → List Nat → List SV → St → Prop)
    (h0 : ∀ it, ∃ e', LeEnv ((env.set a1 (.mp mid)).set a2 it) e' ∧ I it [] e' st)
    (hmap : ∀ it S e s, I it S e s → s[mid]? = some (.map es) ∧ e.getD a2 .any = it ∧ e.length = env.length)
    (hdone : ∀ it S e s, I it S e s → (∀ j, j < es.length → j ∈ S) → S.Nodup → (∀ j ∈ S, j < es.length) → Q .normal ((e.set d1 (.tuple [.sc (.bool false)])).set d2 (.sc (.bool false))) s)
    (hround : ∀ it S j e s, I it S e s → S.Nodup → (∀ j ∈ S, j < es.length) → j < es.length → j ∉ S →
      opsSpec P M (ops.toList.map (·.dst)) r (((e.set d1 (.tuple [.sc (.bool true), .any, .any])).set d2 (.sc (.bool true))).set d3 (.tuple [.sc (es.getD j (default, .any)).1, (es.getD j (default, .any)).2])) s
        (fun e s => cSpec P M rest (roundQ X Y Q (I it (S ++ [j]))) e s)) :
    AWp P (.seq (.region i0 #[o1, o2] false) (.block X (.loop (.seq (.region i1 #[o3, o4] false) (.seq (.cond (.tmp d2) .skip (.exit X)) (.block Y (.seq (.region i2 ops false) rest))))))) Q env st := by
  intro σ w a hI hR D hd
  obtain ⟨m, ents, clock, q1, q2, q3, q4⟩ := hI.maps mid es hes
  have hxv : a.eval (.tmp x) = .map (some m) := by
    have := hR.get x
    rw [hx] at this
    show a.tmps.getD x undef = _
    generalize a.tmps.getD x undef = v at this
    cases this with
    | mp _ b' _ hb' => rw [q1] at hb'; cases hb'; rfl
  obtain ⟨⟨kt, kd, ke⟩, hmt⟩ := Option.isSome_iff_exists.1 hu
  have hut := (aMap_of hmt).1
  have hsz := hR.1
  have hw1 : (Code.region i0 #[o1, o2] false).wp P (fun e a' w' => e = .normal ∧ a' = (a.put (some a1) (.map (some m))).put (some a2) (.pointer (some ⟨w.heap.size, 0, none⟩)) ∧ w' = w.alloc (.mapIter (some m) clock #[] clock)) a w := by
    refine wp_region ?_
    have hr1 : (execOp a.eval o1).run P w = .ok (.value (.map (some m))) w := by simp [execOp, h1.1, hxv]
    refine wpOps_value (o := o1) (i := 0) rfl h1.2.2 hr1 ?_
    have hr2 : (execOp (a.put o1.dst (.map (some m))).eval o2).run P w = .ok (.value (.pointer (some ⟨w.heap.size, 0, none⟩))) (w.alloc (.mapIter (some m) clock #[] clock)) := by
      have he : (a.put o1.dst (.map (some m))).eval (.tmp a1) = .map (some m) := by rw [h1.2.1]; exact eval_put_same (by omega)
      simp [execOp, h2.1, he, run_range_map w t kt ke m ents clock hut q2]
    refine wpOps_value (o := o2) (i := 1) rfl h2.2.2 hr2 ?_
    exact ⟨rfl, by rw [h1.2.1, h2.2.1], rfl⟩
  refine wp_seq (wp_mono hw1 fun e a' w' hp => ?_)
  obtain ⟨rfl, rfl, rfl⟩ := hp
  have hb : ∃ b, b = w.heap.size := ⟨_, rfl⟩
  obtain ⟨b, hb⟩ := hb
  have hX1 : Ext st σ w st (σ.setLock b .all) (w.alloc (.mapIter (some m) clock #[] clock)) := by rw [hb]; exact Ext.alloc hI _ .all
  have hI1 : Inv st (σ.setLock b .all) (w.alloc (.mapIter (some m) clock #[] clock)) := by rw [hb]; exact hI.alloc _ .all
  rw [← hb]
  obtain ⟨it, hit⟩ : ∃ it, it = SV.sc (.pointer (some ⟨b, 0, none⟩)) := ⟨_, rfl⟩
  have hR1 : RepEnv st (σ.setLock b .all) (w.alloc (.mapIter (some m) clock #[] clock)) ((env.set a1 (.mp mid)).set a2 it) ((a.put (some a1) (.map (some m))).put (some a2) (.pointer (some ⟨b, 0, none⟩))).tmps := by
    refine rep_put (rep_put (hR.ext hX1) (some a1) (.mp mid m ⟨es, hes⟩ q1)) (some a2) ?_
    rw [hit]; exact .sc _
  have hit1 : IterAt st (σ.setLock b .all) (w.alloc (.mapIter (some m) clock #[] clock)) b mid es.length [] := by
    refine ⟨by simp [Sig.setLock, Lock.still], m, ents, clock, clock, #[], clock, q1, ?_, q3.1, ?_, rfl, fun j hj => q3.2.2.1 j (by rw [q3.1]; exact hj), fun _ h => absurd rfl h⟩
    · show (w.heap.push _)[m]? = _
      rw [heap_push_old _ (lt_of_some q2)]; exact q2
    · show (w.heap.push _)[b]? = _
      rw [hb]; simp
  obtain ⟨e0, hle0, hI0⟩ := h0 it
  refine wp_block ?_
  refine wp_mono (Q := fun e a' w' => Post D (blockQ X Q e) st σ w a' w') ?_ fun e a' w' hp => ?_
  rotate_left
  · cases e with
    | exit id' =>
      simp only [Exit.inBlock]
      split
      · rename_i e; simpa only [blockQ, e, if_true] using hp
      · rename_i e; simpa only [blockQ, e, if_false] using hp
    | _ => exact hp
  refine wp_loop_J (fun k a' w' => a'.defers = D ∧ ∃ S e s σ', I it S e s ∧ S.Nodup ∧ (∀ j ∈ S, j < es.length) ∧ k + S.length = es.length ∧ Inv s σ' w' ∧ RepEnv s σ' w' e a'.tmps ∧ Ext st σ w s σ' w' ∧ IterAt s σ' w' b mid es.length S) (n := es.length)
    ⟨by rw [put_defers, put_defers]; exact hd, [], e0, st, _, hI0, List.nodup_nil, fun j hj => (by cases hj), by simp, hI1, repEnv_le hle0 hR1, hX1, hit1⟩ ?_
  rintro k a' w' ⟨hd', S, e, s, σ', hIS, hnd, hlt, hk, hI', hR', hX', hIt⟩
  obtain ⟨m1, m2, m3⟩ := hmap it S e s hIS
  have hev : a'.eval (.tmp a2) = .pointer (some ⟨b, 0, none⟩) := by
    have := hR'.get a2
    rw [m2, hit] at this
    exact rep_sc this
  have hsz' := hR'.1
  rcases iter_next (P := P) o3.type hI' m1 rfl hIt hlt with ⟨hall, hrun⟩ | ⟨j, hj, hjS, v, w2, hrun, hrv, hsw, hIt2, hIJ⟩
  · -- nothing is left
    have hw2 : (Code.region i1 #[o3, o4] false).wp P (fun e a2 w2 => e = .normal ∧ a2 = (a'.put (some d1) (.tuple #[.bool false])).put (some d2) (.bool false) ∧ w2 = w') a' w' := by
      refine wp_region ?_
      refine wpOps_value (o := o3) (i := 0) rfl h3.2.2 (v := .tuple #[.bool false]) (w' := w') (by simp [execOp, h3.1, hev, hrun]) ?_
      refine wpOps_value (o := o4) (i := 1) rfl h4.2.2 (v := .bool false) (w' := w') ?_ ⟨rfl, by rw [h3.2.1, h4.2.1], rfl⟩
      have he : (a'.put o3.dst (.tuple #[.bool false])).eval (.tmp d1) = .tuple #[.bool false] := by rw [h3.2.1]; exact eval_put_same (by omega)
      simp [execOp, h4.1, he, Instr.extract]
    refine wp_seq (wp_mono hw2 fun e1 a2' w2' hp => ?_)
    obtain ⟨rfl, rfl, rfl⟩ := hp
    refine wp_seq ?_
    have hc : ((a'.put (some d1) (.tuple #[.bool false])).put (some d2) (.bool false)).eval (.tmp d2) = .bool false := eval_put_same (by simp [Act.put]; omega)
    refine wp_cond_split hc (fun h => by cases h) fun _ => ?_
    refine wp_exit ?_
    refine ⟨by rw [put_defers, put_defers]; exact hd', _, s, σ', ?_, hI', rep_put (rep_put hR' (some d1) (.tuple [.sc (.bool false)] #[.bool false] rfl fun i hi => ?_)) (some d2) (.sc _), hX'⟩
    · simp only [blockQ, if_true]
      exact hdone it S e s hIS hall hnd hlt
    · match i, hi with
      | 0, _ => exact .sc _
  · -- an entry has come
    have hI2 := hI'.swap hsw
    have hX2 := hX'.swap hsw hI (by omega)
    have hR2 : RepEnv s σ' w2 e a'.tmps := ⟨hR'.1, fun i hi => (hR'.2 i hi).swap hsw⟩
    obtain ⟨vs, rfl, hv0⟩ : ∃ vs : Array Value, v = .tuple vs ∧ vs[0]? = some (.bool true) := by
      cases hrv with
      | tuple l vs hl r =>
        have h0 := r 0 (by simp)
        have := rep_sc h0
        refine ⟨vs, rfl, ?_⟩
        have hl' : vs.size = 3 := hl
        rw [Array.getD_eq_getD_getElem?, Array.getElem?_eq_getElem (by omega)] at this
        rw [Array.getElem?_eq_getElem (by omega)]
        simpa using this
    have hw2 : (Code.region i1 #[o3, o4] false).wp P (fun e a2 w3 => e = .normal ∧ a2 = (a'.put (some d1) (.tuple vs)).put (some d2) (.bool true) ∧ w3 = w2) a' w' := by
      refine wp_region ?_
      refine wpOps_value (o := o3) (i := 0) rfl h3.2.2 (v := .tuple vs) (w' := w2) (by simp [execOp, h3.1, hev, hrun]) ?_
      refine wpOps_value (o := o4) (i := 1) rfl h4.2.2 (v := .bool true) (w' := w2) ?_ ⟨rfl, by rw [h3.2.1, h4.2.1], rfl⟩
      have he : (a'.put o3.dst (.tuple vs)).eval (.tmp d1) = .tuple vs := by rw [h3.2.1]; exact eval_put_same (by omega)
      simp [execOp, h4.1, he, Instr.extract, hv0]
    refine wp_seq (wp_mono hw2 fun e1 a2' w2' hp => ?_)
    obtain ⟨rfl, rfl, rfl⟩ := hp
    refine wp_seq ?_
    have hc : ((a'.put (some d1) (.tuple vs)).put (some d2) (.bool true)).eval (.tmp d2) = .bool true := eval_put_same (by simp [Act.put]; omega)
    refine wp_cond_split hc (fun _ => ?_) fun h => by cases h
    refine wp_skip ?_
    have hR3 : RepEnv s σ' w2' ((e.set d1 (.tuple [.sc (.bool true), .any, .any])).set d2 (.sc (.bool true))) ((a'.put (some d1) (.tuple vs)).put (some d2) (.bool true)).tmps := rep_put (rep_put hR2 (some d1) hrv) (some d2) (.sc _)
    have hev3 : ((a'.put (some d1) (.tuple vs)).put (some d2) (.bool true)).eval (.tmp a2) = .pointer (some ⟨b, 0, none⟩) := by
      have := hR3.get a2
      have e1 : ((e.set d1 (.tuple [.sc (.bool true), .any, .any])).set d2 (.sc (.bool true))).getD a2 .any = it := by
        rw [← m2]
        simp [List.getD_eq_getElem?_getD, List.getElem?_set_ne (Ne.symm hn1), List.getElem?_set_ne (Ne.symm hn2)]
      rw [e1, hit] at this
      exact rep_sc this
    obtain ⟨v3, hrun3, hrv3⟩ := iter_entry (P := P) hI2 m1 hIJ
    have hspec := hround it S j e s hIS hnd hlt hj hjS
    have hops' : ops.toList.drop 1 = r := by rw [hops]; rfl
    have haops := aops_spec (P := P) (M := M) (ops := ops) 1 r _ s hops' hspec
    have hsize : ops.size = r.length + 1 := by rw [← Array.length_toList, hops]; rfl
    have hrange : List.range ops.size = 0 :: List.range' 1 r.length := by rw [hsize, List.range_eq_range', List.range'_succ]
    have hwr : (Code.seq (.region i2 ops false) rest).wp P (fun e a' w' => Post D (roundQ X Y Q (I it (S ++ [j])) e) s σ' w2' a' w') ((a'.put (some d1) (.tuple vs)).put (some d2) (.bool true)) w2' := by
      refine wp_seq ?_
      refine wp_region ?_
      rw [hrange]
      have ho5 : ops[0]? = some o5 := by
        rw [← Array.getElem?_toList, hops]; rfl
      refine wpOps_value ho5 h5.2.2 (v := v3) (w' := w2') (by simp [execOp, h5.1, hev3, hrun3]) ?_
      rw [h5.2.1]
      refine wpOps_mono (fun ex a3 w3 hp => ?_) _ _ _ (haops σ' w2' _ hI2 (rep_put hR3 (some d3) hrv3) (D := D) (by rw [put_defers, put_defers, put_defers]; exact hd'))
      obtain ⟨rfl, hd3, e3, s3, σ3, hc3, hI3, hR3', hX3⟩ := hp
      exact wp_mono (awp_c hc3 σ3 w3 a3 hI3 hR3' hd3) fun e a w hp => hp.ext hX3
    refine wp_block (wp_mono hwr fun ex a3 w3 hp => ?_)
    have fin : ∀ ex', Post D (thenQ (fun e s => ∃ e', LeEnv e e' ∧ I it (S ++ [j]) e' s) (blockQ X Q) ex') s σ' w2' a3 w3 → (match ex' with | .normal => ∃ m', m' < k ∧ (a3.defers = D ∧ ∃ S e s σ', I it S e s ∧ S.Nodup ∧ (∀ j ∈ S, j < es.length) ∧ m' + S.length = es.length ∧ Inv s σ' w3 ∧ RepEnv s σ' w3 e a3.tmps ∧ Ext st σ w s σ' w3 ∧ IterAt s σ' w3 b mid es.length S) | e => Post D (blockQ X Q e) st σ w a3 w3) := by
      intro ex' hp
      cases ex' with
      | normal =>
        obtain ⟨hd3, e3, s3, σ3, ⟨e4, hle4, hI4⟩, hI3, hR3', hX3⟩ := hp
        obtain ⟨p1, p2, p3⟩ := hmap it _ e4 s3 hI4
        have hj' : (S ++ [j]).length = S.length + 1 := by simp
        have hcard : S.length + 1 ≤ es.length := by
          have : (S ++ [j]).Nodup := by
            rw [List.nodup_append]
            exact ⟨hnd, by simp, fun a ha b hb => by simp at hb; subst hb; rintro rfl; exact hjS ha⟩
          have h1 : (S ++ [j]).length ≤ (List.range es.length).length := by
            refine List.Nodup.length_le_of_subset this fun y hy => ?_
            rw [List.mem_range]
            rcases List.mem_append.1 hy with h | h
            · exact hlt y h
            · simp at h; subst h; exact hj
          rw [hj', List.length_range] at h1; exact h1
        refine ⟨k - 1, by omega, hd3, S ++ [j], e4, s3, σ3, hI4, ?_, fun y hy => ?_, by rw [hj']; omega, hI3, repEnv_le hle4 hR3', hX2.trans hX3, hIt2.ext hX3 hI3 m1 p1 rfl⟩
        · rw [List.nodup_append]
          exact ⟨hnd, by simp, fun a ha b hb => by simp at hb; subst hb; rintro rfl; exact hjS ha⟩
        · rcases List.mem_append.1 hy with h | h
          · exact hlt y h
          · simp at h; subst h; exact hj
      | _ => exact Post.ext hp hX2
    cases ex with
    | exit id' =>
      simp only [Exit.inBlock]
      by_cases e : id' = Y
      · rw [if_pos e]
        refine fin .normal ?_
        simpa only [roundQ, blockQ, e, if_true] using hp
      · rw [if_neg e]
        refine fin (.exit id') ?_
        simpa only [roundQ, blockQ, e, if_false] using hp
    | normal => exact fin .normal hp
    | goto l => exact fin (.goto l) hp
    | ret => exact fin .ret hp
    | panic ch => exact fin (.panic ch) hp
    | outgrown => exact fin .outgrown hp
end Go.AL
set_option linter.unusedVariables false
namespace Go.AL
variable {P : Program}
section
variable {M : List Nat} {ds : List (Option Tmp)} {ks : List Nat} {tbl : List (List Nat × St)} {i : Nat} {L : List (List Nat)} {Ls : List (List (List Nat))} {o : Oper} {r : List Oper} {env : List SV} {K : List SV → Prop}
theorem dD_pA (hk : ks.contains i = false) (X : SV) (h1 : ∀ c ∈ L, d1Spec P M ds o env (look tbl c) (fun x => x = X)) (h2 : drawD P M ds ks tbl (i + 1) Ls r (putE env o.dst X) K) : drawD P M ds ks tbl i (L :: Ls) (o :: r) env K := by
  refine ⟨X, ?_, h2⟩
  rw [if_neg (by rw [hk]; decide)]
  exact h1
end
theorem forall_cs {α : Type} {p : α → Prop} {a : α} {l : List α} : (∀ x ∈ a :: l, p x) = (p a ∧ ∀ x ∈ l, p x) := propext List.forall_mem_cons
theorem forall_nl {α : Type} {p : α → Prop} : (∀ x ∈ ([] : List α), p x) = True := eq_true fun x hx => by cases hx
end Go.AL
set_option linter.unusedVariables false
namespace Go.AL
variable {P : Program}
theorem conv_as {st : St} (id j : Nat) (X : SV) {l : List SV} (hl : st[id]? = some (.cells l)) (hj : j < l.length) (he : ∀ σ w v, Rep st σ w (l.getD j .any) v → Rep st σ w X v) :
    Conv st (st.set id (.cells (l.set j X))) := by
  intro σ w hI
  obtain ⟨b, cs, T, h1, h2, h3, h4, h5⟩ := hI.cells id l hl
  have hr : ∀ i, i < (l.set j X).length → Rep st σ w ((l.set j X).getD i .any) (cs.getD i default) := by
    intro i hi
    simp only [List.length_set] at hi
    by_cases e : j = i
    · subst e
      have e2 : (l.set j X).getD j .any = X := by simp [List.getD_eq_getElem?_getD, hi]
      rw [e2]
      exact he σ w _ (h4 j hi)
    · have := h4 i hi
      simpa [List.getD_eq_getElem?_getD, List.getElem?_set_ne e] using this
  exact ⟨σ, Inv.write (w' := w) (l' := l.set j X) hI hl h1 h5 rfl rfl rfl rfl (fun _ _ => rfl) h2 (by simpa using h3) hr, Ext.write (w' := w) (l' := l.set j X) hI hl h1 h5 rfl rfl rfl rfl (fun _ _ => rfl)⟩
theorem rep_nil_imm {st : St} {σ : Sig} {w : World} {v : Value} {z z' : Nat} (h : Rep st σ w (.slice .full z' []) v) : Rep st σ w (.slice .imm z []) v := by
  have h7 := rep_nil_z (z' := z) h (.inl rfl)
  generalize hl' : ([] : List SV) = l' at h7
  generalize hx : SV.slice .full z l' = x at h7
  cases h7 with
  | nil m z hm => cases hx; exact .nil _ _ trivial
  | slice m z l a cap vals hcap hsp hzz hc hr hm =>
    cases hx
    subst hl'
    exact .slice _ _ _ _ _ vals hcap hsp hzz hc hr trivial
  | _ => cases hx
theorem acalls_goA {f : FuncId} {fn : Func} {c : Code} {rs : Array ResultVar} {n : Nat} {args : List SV} {K : SV → St → Prop} {st : St} (hf : P.funcs[f]? = some fn) (hb : fn.body = some c)
    (hr : fn.results = rs) (hn : fn.ntmps = n) (h : AWp P c (RetR P rs.toList K) (args ++ List.replicate (n - args.length) .any) st) : ACalls P f args K st := by
  subst hr; subst hn
  refine acalls_of hf hb (h.mono fun e env st hq => ?_)
  cases e <;> simp only [RetR] at hq <;> first | exact hq.elim | exact ⟨trivial, _, getD_of (d := []) hq.1, hq.2⟩
end Go.AL
set_option linter.unusedVariables false
namespace Go.AL
variable {P : Program}
theorem ext_grow {st : St} (os : Array Obj) {σ : Sig} {w : World} (hI : Inv st σ w) : ∃ σ', Inv st σ' (Sort.grow w os) ∧ Ext st σ w st σ' (Sort.grow w os) := by
  obtain ⟨l⟩ := os
  induction l generalizing σ w with
  | nil => exact ⟨σ, by simpa [Sort.grow] using hI, by simpa [Sort.grow] using Ext.refl st σ w⟩
  | cons o r ih =>
    obtain ⟨σ', h1, h2⟩ := ih (hI.alloc o (.upto 0))
    have e : Sort.grow w ⟨o :: r⟩ = Sort.grow { w with heap := w.heap.push o } ⟨r⟩ := by
      unfold Sort.grow
      congr 1
      apply Array.toList_inj.1
      simp
    rw [e]
    exact ⟨σ', h1, (Ext.alloc hI o (.upto 0)).trans h2⟩
theorem st_same {st : St} {id : Nat} {o : Ob} (h : st[id]? = some o) : st.set id o = st := by
  refine List.ext_getElem? fun i => ?_
  by_cases e : id = i
  · subst e; rw [List.getElem?_set_self (lt_of_get h), h]
  · rw [List.getElem?_set_ne e]
theorem sort_arr {f : FuncId} (hS : ∀ (blk off cap : Nat) (zs : List Int) (w : World), Sort.Holds (Value.int .i64) w blk off zs.toArray → blk < w.heap.size → zs.length < 4611686018427387904 →
      Calls P f #[.slice (some ⟨blk, off, none⟩) zs.length cap] w fun e w' => e = .returned (.tuple #[]) ∧ ∃ n os, w' = Sort.grow (Sort.putRow (Value.int .i64) (Sort.ahead w n) blk off (zs.mergeSort fun x y => decide (x ≤ y)).toArray) os)
    (hN : ∀ (p : Option Addr) (cap : Nat) (w : World), Calls P f #[.slice p 0 cap] w fun e w' => e = .returned (.tuple #[]) ∧ w' = w)
    {st : St} {id ver : Nat} {zs : List Int} (hid : st[id]? = some (.arr ver 1 (zs.map fun z => .sc (.int .i64 z)))) (hlen : zs.length < 4611686018427387904) (K : SV → St → Prop)
    (h : K (.tuple []) (st.set id (.arr ver 1 ((zs.mergeSort fun x y => decide (x ≤ y)).map fun z => .sc (.int .i64 z))))) : ACalls P f [.arr id ver zs.length] K st := by
  intro σ w vs hI hR
  have hr := hR.2 0 (by simp)
  simp only [List.getD_cons_zero] at hr
  have hvs : vs = #[vs.getD 0 undef] := by
    have := hR.1
    simp only [List.length_cons, List.length_nil] at this
    apply Array.ext
    · simpa using this
    · intro i h1 h2
      have : i = 0 := by simp at h2; omega
      subst this
      simp [Array.getD, h1]
  rw [hvs]
  generalize vs.getD 0 undef = v at hr
  have hlt := lt_of_get hid
  cases hr with
  | arr _ _ _ v0 z cs v ho hk hv hh =>
    rw [hid] at hk; cases hk
    obtain ⟨q1, q2⟩ := hh rfl
    rcases q2 with ⟨n1, n2, a, rfl⟩ | ⟨b, cap, vals, T, r1, rfl, r3, r4, r5⟩
    · have hz : zs = [] := List.eq_nil_of_length_eq_zero n2
      subst hz
      refine (hN a 0 w).mono ?_
      rintro e w' ⟨rfl, rfl⟩
      refine ⟨_, .tuple [], _, σ, rfl, h, ?_, .tuple [] #[] rfl (fun i hi => by cases hi), ?_⟩
      · rw [List.mergeSort_nil, st_same hid]; exact hI
      · rw [List.mergeSort_nil, st_same hid]; exact Ext.refl _ _ _
    · rcases hI.arrs id ver 1 _ hid with ⟨m1, _⟩ | ⟨b', vals', T', m1, m2, m3, m4, m5⟩
      · rw [m1] at r1; cases r1
      rw [r1] at m1; cases m1
      rw [r4] at m2; cases m2
      simp only [List.length_map] at m3 m4
      have hval : ∀ j, j < zs.length → vals.getD j default = .int .i64 (zs.getD j 0) := by
        intro j hj
        have := m4 j hj
        have e : (zs.map fun z => SV.sc (.int .i64 z)).getD j .any = .sc (.int .i64 (zs.getD j 0)) := by simp [List.getD_eq_getElem?_getD, hj]
        rw [e] at this
        exact rep_sc this
      have hH : Sort.Holds (Value.int .i64) w b 0 zs.toArray := by
        intro j hj
        have hj' : j < zs.length := by simpa using hj
        have h1 := hval j hj'
        have h2 : j < vals.size := by omega
        constructor
        · simp only [World.cell?, r4, Nat.zero_add]
          rw [Array.getD_eq_getD_getElem?, Array.getElem?_eq_getElem h2] at h1
          simp only [Option.getD_some] at h1
          simp [h2, h1, List.getD_eq_getElem?_getD, hj']
        · simp [World.frozen?, r4]
      refine (hS b 0 cap zs w hH (lt_of_some r4) hlen).mono ?_
      rintro e w' ⟨rfl, n, os, rfl⟩
      obtain ⟨zs', hzs⟩ : ∃ zs', zs' = zs.mergeSort fun x y => decide (x ≤ y) := ⟨_, rfl⟩
      have hl' : zs'.length = zs.length := by rw [hzs, List.length_mergeSort]
      rw [← hzs] at h ⊢
      obtain ⟨w1, hw1⟩ : ∃ w1, w1 = Sort.putRow (Value.int .i64) (Sort.ahead w n) b 0 zs'.toArray := ⟨_, rfl⟩
      rw [← hw1]
      have hb1 : w1.heap[b]? = some (.cells (Sort.putCells (Value.int .i64) 0 zs'.toArray vals) T (0, 0)) := by
        rw [hw1]
        show (w.heap.modify b _)[b]? = _
        rw [Array.getElem?_modify, if_pos rfl, r4]; rfl
      have hsz : (Sort.putCells (Value.int .i64) 0 zs'.toArray vals).size = vals.size := by simp [Sort.putCells]
      have hoth : ∀ c, c ≠ b → w1.heap[c]? = w.heap[c]? := by
        intro c hc
        rw [hw1]
        show (w.heap.modify b _)[c]? = _
        rw [Array.getElem?_modify, if_neg (Ne.symm hc)]
      have hs1 : w1.heap.size = w.heap.size := by
        rw [hw1]
        show (w.heap.modify b _).size = _
        rw [Array.size_modify]
      have ho1 : w1.os = w.os := by rw [hw1]; rfl
      have ht1 : w1.tape = w.tape := by rw [hw1]; rfl
      have hu1 : w1.output = w.output := by rw [hw1]; rfl
      have hX1 := Ext.arrWrite (w' := w1) (ver' := ver) (cs' := zs'.map fun z => .sc (.int .i64 z)) hI hid r1 r4 hb1 hsz (Nat.le_refl _) (fun _ => by simp [hl']) m5 ho1 ht1 hu1 hs1 hoth
      have hI1 := Inv.arrWrite (w' := w1) (ver' := ver) (cs' := zs'.map fun z => .sc (.int .i64 z)) hI hid r1 r4 hb1 hsz (Nat.le_refl _) (fun _ => by simp [hl']) m5 ho1 ht1 hu1 hs1 hoth (by rw [hsz]; simpa [hl'] using m3) (fun j hj => by
        have hj' : j < zs'.length := by simpa using hj
        have h2 : j < vals.size := by omega
        have e : (zs'.map fun z => SV.sc (.int .i64 z)).getD j .any = .sc (.int .i64 (zs'.getD j 0)) := by simp [List.getD_eq_getElem?_getD, hj']
        have e2 : (Sort.putCells (Value.int .i64) 0 zs'.toArray vals).getD j default = .int .i64 (zs'.getD j 0) := by
          simp only [Sort.putCells, Array.getD_eq_getD_getElem?, Array.getElem?_mapIdx, Array.getElem?_eq_getElem h2, Option.map_some, Option.getD_some]
          rw [if_pos (by simp; omega)]
          simp [List.getD_eq_getElem?_getD, hj']
        rw [e, e2]
        exact .sc _)
      obtain ⟨σ2, hI2, hX2⟩ := ext_grow os hI1
      exact ⟨_, .tuple [], _, σ2, rfl, h, hI2, .tuple [] #[] rfl (fun i hi => by cases hi), hX1.trans hX2⟩
end Go.AL
set_option linter.unusedVariables false
namespace Go.AL
variable {P : Program}
theorem Ext.freeze {st : St} {σ : Sig} {w : World} {b : Nat} (hb : ∀ i, i < st.length → σ.μ i ≠ some b) (hl : (σ.lock b).still = false) : Ext st σ w st (σ.setLock b .all) w where
  os := rfl
  tape := rfl
  output := rfl
  size := Nat.le_refl _
  lock := fun c o v h k => by
    refine ⟨?_, k⟩
    by_cases e : c = b
    · subst e; exact has_all σ c o
    · simp only [Sig.setLock, if_neg e]; exact h
  all := fun c hc hs => by
    have e : c ≠ b := by rintro rfl; rw [hl] at hs; cases hs
    exact ⟨by simp only [Sig.setLock, if_neg e], rfl⟩
  kcells := fun id l h => ⟨⟨l, h⟩, rfl⟩
  ktok := fun id v h => ⟨v, h, Nat.le_refl _, fun _ => ⟨rfl, fun c hc => by
    have e : c ≠ b := by rintro rfl; exact hb id (lt_of_get h) hc
    exact ⟨by simp only [Sig.setLock, if_neg e], rfl⟩⟩⟩
  karrs := fun id v z cs h => ⟨v, cs, h, Nat.le_refl _, fun _ => ⟨rfl, rfl, fun c vals T fr _ hh => ⟨vals, hh, rfl⟩⟩⟩
  kmaps := fun id es h => ⟨⟨es, h⟩, rfl, fun c ents clock _ hh => ⟨ents, clock, hh, Nat.le_refl _, fun _ _ => rfl⟩⟩
theorem Inv.freeze {st : St} {σ : Sig} {w : World} {b : Nat} (hI : Inv st σ w) (hb : ∀ i, i < st.length → σ.μ i ≠ some b) (hl : (σ.lock b).still = false) (hlt : b < w.heap.size) : Inv st (σ.setLock b .all) w where
  cells := fun id l h => by
    obtain ⟨c, cs, T, h1, h2, h3, h4, h5⟩ := hI.cells id l h
    have e : c ≠ b := by rintro rfl; exact hb id (lt_of_get h) h1
    exact ⟨c, cs, T, h1, h2, h3, fun j hj => (h4 j hj).ext (Ext.freeze hb hl), by simp only [Sig.setLock, if_neg e]; exact h5⟩
  tok := fun id v c h hc => by
    have e : c ≠ b := by rintro rfl; exact hb id (lt_of_get h) hc
    obtain ⟨h1, h2⟩ := hI.tok id v c h hc
    exact ⟨h1, by simp only [Sig.setLock, if_neg e]; exact h2⟩
  inj := hI.inj
  fresh := fun c hc => by
    have e : c ≠ b := by omega
    simp only [Sig.setLock, if_neg e]; exact hI.fresh c hc
  arrs := fun id v z cs h => by
    refine (hI.arrs id v z cs h).imp (fun h => h) fun ⟨c, vals, T, h1, h2, h3, h4, h5⟩ => ?_
    have e : c ≠ b := by rintro rfl; exact hb id (lt_of_get h) h1
    exact ⟨c, vals, T, h1, h2, h3, fun j hj => (h4 j hj).ext (Ext.freeze hb hl), by simp only [Sig.setLock, if_neg e]; exact h5⟩
  maps := fun id es h => by
    obtain ⟨c, ents, clock, h1, h2, h3, h4⟩ := hI.maps id es h
    have e : c ≠ b := by rintro rfl; exact hb id (lt_of_get h) h1
    exact ⟨c, ents, clock, h1, h2, ⟨h3.1, fun j hj => ⟨(h3.2.1 j hj).1, (h3.2.1 j hj).2.ext (Ext.freeze hb hl)⟩, h3.2.2⟩, by simp only [Sig.setLock, if_neg e]; exact h4⟩
  globs := hI.globs_ext (Ext.freeze hb hl) fun _ _ _ h => ⟨h, rfl⟩
theorem acalls_still {f : FuncId} {args : List SV} {K : SV → St → Prop} {st : St}
    (h : ACalls P f args (fun x s => (x = .slice .full 0 [] ∧ s = st ∧ K (.slice .imm 1 []) st) ∨
      ∃ (ver : Nat) (zs : List Int), x = .arr st.length ver zs.length ∧ s = st ++ [.arr ver 1 (zs.map fun z : Int => .sc (.int .i64 z))] ∧ K (.slice .imm 1 (zs.map fun z : Int => .sc (.int .i64 z))) st) st) : ACalls P f args K st := by
  intro σ w vs hI hR
  refine (h σ w vs hI hR).mono ?_
  rintro e w' ⟨v, x, s, σ', rfl, hk, hI', hr, hX⟩
  rcases hk with ⟨rfl, rfl, hk⟩ | ⟨ver, zs, rfl, rfl, hk⟩
  · exact ⟨v, _, _, σ', rfl, hk, hI', rep_nil_imm hr, hX⟩
  · have hid : (st ++ [Ob.arr ver 1 (zs.map fun z : Int => .sc (.int .i64 z))])[st.length]? = some (.arr ver 1 (zs.map fun z : Int => .sc (.int .i64 z))) := by simp
    have hI2 := hI'.drop hI.obIds
    have hX2 := hX.drop (Nat.le_refl _)
    cases hr with
    | arr _ _ _ v0 z cs v ho hk' hv hh =>
      rw [hid] at hk'; cases hk'
      obtain ⟨q1, q2⟩ := hh rfl
      rcases q2 with ⟨n1, n2, a, rfl⟩ | ⟨b, cap, vals, T, r1, rfl, r3, r4, r5⟩
      · have hz : zs = [] := List.eq_nil_of_length_eq_zero n2
        subst hz
        cases a with
        | none => exact ⟨_, _, st, σ', rfl, hk, hI2, .nil _ _ trivial, hX2⟩
        | some a =>
          refine ⟨_, _, st, σ', rfl, hk, hI2, ?_, hX2⟩
          exact .slice .imm 1 [] a 0 (fun _ _ => default) (Nat.le_refl _) (fun h => absurd rfl h) (fun i hi => by cases hi) (fun i j hi => by cases hi) (fun i j hi => by cases hi) trivial
      · rcases hI'.arrs _ ver 1 _ hid with ⟨m1, _⟩ | ⟨b', vals', T', m1, m2, m3, m4, m5⟩
        · rw [m1] at r1; cases r1
        rw [r1] at m1; cases m1
        rw [r4] at m2; cases m2
        have hb : ∀ i, i < st.length → σ'.μ i ≠ some b := by
          intro i hi e
          have := hI'.inj i st.length b (by simp; omega) (by simp) e r1
          omega
        have hl : (σ'.lock b).still = false := by rw [m5]; rfl
        simp only [List.length_map] at m3 m4
        refine ⟨_, _, st, _, rfl, hk, hI2.freeze hb hl (lt_of_some r4), ?_, hX2.trans (Ext.freeze hb hl)⟩
        have hln : (zs.map fun z : Int => SV.sc (.int .i64 z)).length = zs.length := by simp
        have key := Rep.slice (st := st) (σ := σ'.setLock b .all) (w := w') .imm 1 (zs.map fun z : Int => SV.sc (.int .i64 z)) ⟨b, 0, none⟩ cap (fun i _ => vals.getD i default) (by rw [hln]; exact r3) (fun _ => rfl)
          (fun i hi => by
            have hi' : i < zs.length := by simpa using hi
            simp [List.getD_eq_getElem?_getD, hi', SV.cells])
          (fun i j hi hj => by
            have hi' : i < zs.length := by simpa using hi
            have h2 : i < vals.size := by omega
            have : j = 0 := by omega
            subst this
            refine ⟨?_, has_all σ' b _⟩
            simp [World.cell?, r4, h2, Array.getD])
          (fun i j hi hj => by
            have hi' : i < zs.length := by simpa using hi
            have : j = 0 := by omega
            subst this
            have h9 := m4 i hi'
            have e : (zs.map fun z => SV.sc (.int .i64 z)).getD i .any = .sc (.int .i64 (zs.getD i 0)) := by simp [List.getD_eq_getElem?_getD, hi']
            rw [e] at h9
            rw [rep_sc h9, e]
            exact .sc _)
          trivial
        rw [hln] at key
        exact key
end Go.AL
set_option linter.unusedVariables false
namespace Go.AL
open Go Go.RowKit
variable {P : Program}
theorem ext_below {st : St} {σ : Sig} {w w' : World} (hI : Inv st σ w) (hb : Below w.heap.size w w') : Ext st σ w st σ w' where
  os := hb.os
  tape := hb.tape
  output := hb.output
  size := hb.size
  lock := fun b o v h k => by
    have hlt : b < w.heap.size := by
      unfold World.cell? at k
      cases hx : w.heap[b]? with
      | none => simp [hx] at k
      | some x => exact lt_of_some hx
    refine ⟨h, ?_⟩
    unfold World.cell? at k ⊢
    rw [hb.block b hlt]; exact k
  all := fun b hlt _ => ⟨rfl, hb.block b hlt⟩
  kcells := fun id l h => ⟨⟨l, h⟩, rfl⟩
  ktok := fun id v h => ⟨v, h, Nat.le_refl _, fun _ => ⟨rfl, fun b hb' => ⟨rfl, hb.block b (hI.tok id v b h hb').1⟩⟩⟩
  karrs := fun id v z cs h => ⟨v, cs, h, Nat.le_refl _, fun _ => ⟨rfl, rfl, fun b vals T fr _ hh => ⟨vals, by rw [hb.block b (lt_of_some hh)]; exact hh, rfl⟩⟩⟩
  kmaps := fun id es h => ⟨⟨es, h⟩, rfl, fun b ents clock _ hh => ⟨ents, clock, by rw [hb.block b (lt_of_some hh)]; exact hh, Nat.le_refl _, fun _ _ => rfl⟩⟩
theorem inv_below {st : St} {σ : Sig} {w w' : World} (hI : Inv st σ w) (hb : Below w.heap.size w w') : Inv st σ w' where
  cells := fun id l h => by
    obtain ⟨b, cs, T, h1, h2, h3, h4, h5⟩ := hI.cells id l h
    exact ⟨b, cs, T, h1, by rw [hb.block b (lt_of_some h2)]; exact h2, h3, fun j hj => (h4 j hj).ext (ext_below hI hb), h5⟩
  tok := fun id v b h hb' => by
    obtain ⟨h1, h2⟩ := hI.tok id v b h hb'
    exact ⟨Nat.lt_of_lt_of_le h1 hb.size, h2⟩
  inj := hI.inj
  fresh := fun b h => hI.fresh b (Nat.le_trans hb.size h)
  arrs := fun id v z cs h => (hI.arrs id v z cs h).imp (fun h => h) fun ⟨b, vals, T, h1, h2, h3, h4, h5⟩ => ⟨b, vals, T, h1, by rw [hb.block b (lt_of_some h2)]; exact h2, h3, fun j hj => (h4 j hj).ext (ext_below hI hb), h5⟩
  maps := fun id es h => by
    obtain ⟨b, ents, clock, h1, h2, h3, h4⟩ := hI.maps id es h
    exact ⟨b, ents, clock, h1, by rw [hb.block b (lt_of_some h2)]; exact h2, ⟨h3.1, fun j hj => ⟨(h3.2.1 j hj).1, (h3.2.1 j hj).2.ext (ext_below hI hb)⟩, h3.2.2⟩, h4⟩
  globs := hI.globs_ext (ext_below hI hb) fun _ _ _ h => ⟨h, rfl⟩
theorem args_one {st : St} {σ : Sig} {w : World} {x : SV} {vs : Array Value} (hR : RepArgs st σ w [x] vs) : ∃ v, vs = #[v] ∧ Rep st σ w x v := by
  refine ⟨vs.getD 0 undef, ?_, by simpa using hR.2 0 (by simp)⟩
  have := hR.1
  simp only [List.length_cons, List.length_nil] at this
  apply Array.ext
  · simpa using this
  · intro i h1 h2
    have : i = 0 := by simp at h2; omega
    subst this
    simp [Array.getD, h1]
theorem acalls_as {f : FuncId} {args : List SV} {K : SV → St → Prop} {st : St} (h : ACalls P f args (fun x s => ∃ x', (∀ σ w v, Rep s σ w x v → Rep s σ w x' v) ∧ K x' s) st) : ACalls P f args K st := by
  intro σ w vs hI hR
  refine (h σ w vs hI hR).mono ?_
  rintro e w' ⟨v, x, s, σ', rfl, ⟨x', hx, hk⟩, hI', hr, hX⟩
  exact ⟨v, x', s, σ', rfl, hk, hI', hx _ _ _ hr, hX⟩
theorem rep_empty {st : St} {σ : Sig} {w : World} {v : Value} {m : Mode} {z z' : Nat} (h : Rep st σ w (.slice m z []) v) : Rep st σ w (.slice .imm z' []) v := by
  generalize hl : ([] : List SV) = l at h
  generalize hx : SV.slice m z l = x at h
  cases h with
  | nil => cases hx; exact .nil .imm z' trivial
  | slice m z l a cap =>
    cases hx
    subst hl
    exact .slice .imm z' [] a cap (fun _ _ => default) (Nat.zero_le _) (fun h => absurd rfl h) (fun i hi => by cases hi) (fun i j hi => by cases hi) (fun i j hi => by cases hi) trivial
  | _ => cases hx
end Go.AL
set_option linter.unusedVariables false
namespace Go.AL
variable {P : Program}
def isStore : Op → Bool
  | .store _ _ _ => true
  | _ => false
def drawU (P : Program) (M : List Nat) (ds : List (Option Tmp)) (R : St → Prop) (s0 : St) : List Nat → List Oper → List SV → St → (List SV → St → Prop) → Prop
  | [], [], env, st, K => K env st
  | 0 :: tg, o :: r, env, st, K => d1Spec P M ds o env s0 fun x => drawU P M ds R s0 tg r (putE env o.dst x) st K
  | 1 :: tg, o :: r, env, st, K => isStore o.op = true ∧ o.guard = none ∧ effSpec P M o (onlyAt (opTmps o.op.operands.toList) 0 env) st fun x s => R s ∧ drawU P M ds R s0 tg r (putE env o.dst x) s K
  | 2 :: tg, o :: r, env, st, K => d1Spec P M ds o env st fun x => (∀ s, R s → d1Spec P M ds o env s fun y => y = x) ∧ drawU P M ds R s0 tg r (putE env o.dst x) st K
  | 3 :: tg, o :: r, env, st, K => ∃ X s', effSpec P M o (onlyAt (opTmps o.op.operands.toList) 0 env) st (fun x s => x = X ∧ s = s') ∧ o.guard = none ∧ R s' ∧ drawU P M ds R s0 tg r (putE env o.dst X) s' K
  | _, _, _, _, _ => False
section
variable {M : List Nat} {ds : List (Option Tmp)} {R : St → Prop} {s0 st : St} {tg : List Nat} {o : Oper} {r : List Oper} {env : List SV} {K : List SV → St → Prop}
theorem drawU_n : drawU P M ds R s0 [] [] env st K = K env st := rfl
theorem drawU_0 : drawU P M ds R s0 (0 :: tg) (o :: r) env st K = d1Spec P M ds o env s0 fun x => drawU P M ds R s0 tg r (putE env o.dst x) st K := rfl
theorem drawU_1 : drawU P M ds R s0 (1 :: tg) (o :: r) env st K = (isStore o.op = true ∧ o.guard = none ∧ effSpec P M o (onlyAt (opTmps o.op.operands.toList) 0 env) st fun x s => R s ∧ drawU P M ds R s0 tg r (putE env o.dst x) s K) := rfl
theorem drawU_2 : drawU P M ds R s0 (2 :: tg) (o :: r) env st K = d1Spec P M ds o env st fun x => (∀ s, R s → d1Spec P M ds o env s fun y => y = x) ∧ drawU P M ds R s0 tg r (putE env o.dst x) st K := rfl
theorem drawU_3 : drawU P M ds R s0 (3 :: tg) (o :: r) env st K = ∃ X s', effSpec P M o (onlyAt (opTmps o.op.operands.toList) 0 env) st (fun x s => x = X ∧ s = s') ∧ o.guard = none ∧ R s' ∧ drawU P M ds R s0 tg r (putE env o.dst X) s' K := rfl
theorem isStore_s {t : TypeId} {a b : Operand} : isStore (.store t a b) = true := rfl
end
def ksOf : Nat → List Nat → List Nat
  | _, [] => []
  | n, t :: r => if t == 1 || t == 3 then n :: ksOf (n + 1) r else ksOf (n + 1) r
def elOf : Nat → List Nat → List Nat
  | _, [] => []
  | n, t :: r => if t == 0 then n :: elOf (n + 1) r else elOf (n + 1) r
def tagsOk (ks el : List Nat) : Nat → List Nat → Bool
  | _, [] => true
  | n, t :: r => (ks.contains n == (t == 1 || t == 3)) && (el.contains n == (t == 0)) && tagsOk ks el (n + 1) r
theorem store_ext {M : List Nat} {o : Oper} {env : List SV} {st : St} {K : SV → St → Prop} (hs : isStore o.op = true) (h : effSpec P M o env st K) : ∃ X s', effSpec P M o env st (fun x s => x = X ∧ s = s') ∧ K X s' := by
  unfold isStore at hs
  split at hs
  · rename_i t x y ho
    unfold effSpec at h ⊢
    rw [ho] at h ⊢
    simp only at h ⊢
    obtain ⟨h1, h2⟩ := h
    unfold storeSpec at h2 ⊢
    split at h2
    · rename_i e
      rw [e] at *
      obtain ⟨a, b, c, d, f, g⟩ := h2
      exact ⟨_, _, ⟨h1, a, b, c, d, f, rfl, rfl⟩, g⟩
    · rename_i e
      rw [e] at *
      obtain ⟨a, b, c, d, f, g⟩ := h2
      exact ⟨_, _, ⟨h1, a, b, c, d, f, rfl, rfl⟩, g⟩
    · exact h2.elim
  · cases hs
theorem chainT {M : List Nat} {ops : Array Oper} {ks el : List Nat} {R : St → Prop} {s0 : St} {K : List SV → St → Prop} : ∀ (n : Nat) (tg : List Nat) (l : List Oper) (env : List SV) (st : St), ops.toList.drop n = l → tagsOk ks el n tg = true → R st →
    drawU P M (ops.toList.map (·.dst)) R s0 tg l env st K →
    ∃ (F : Nat → List SV) (G : Nat → St) (X : Nat → SV), F n = env ∧ G n = st ∧ (∀ i, n ≤ i → R (G i)) ∧
      (∀ i o, n ≤ i → ops[i]? = some o → F (i + 1) = putE (F i) o.dst (X i) ∧
        (if ks.contains i then EffFact P ops (G i) (G (i + 1)) o (F i) (X i) else G (i + 1) = G i ∧ ∀ s, (if el.contains i then s = s0 else R s) → OpFact P ops s o (F i) (X i))) ∧
      K (F (n + l.length)) (G (n + l.length))
  | n, [], [], env, st, hl, ht, hr, h => by
    refine ⟨fun _ => env, fun _ => st, fun _ => .any, rfl, rfl, fun _ _ => hr, fun i o hi ho => ?_, h⟩
    have h1 := lt_of_some ho
    have h2 := congrArg List.length hl
    simp at h2
    omega
  | n, t :: tg, o :: r, env, st, hl, htg, hrs, h => by
    have ho : ops[n]? = some o := by
      have : (ops.toList.drop n)[0]? = some o := by rw [hl]; rfl
      rw [List.getElem?_drop, Nat.add_zero, Array.getElem?_toList] at this
      exact this
    have hr : ops.toList.drop (n + 1) = r := by rw [← List.drop_drop, hl]; rfl
    simp only [tagsOk, Bool.and_eq_true, beq_iff_eq] at htg
    obtain ⟨⟨t1, t2⟩, t3⟩ := htg
    have fin : ∀ (X0 : SV) (s' : St), R s' → drawU P M (ops.toList.map (·.dst)) R s0 tg r (putE env o.dst X0) s' K →
        (if ks.contains n then EffFact P ops st s' o env X0 else s' = st ∧ ∀ s, (if el.contains n then s = s0 else R s) → OpFact P ops s o env X0) →
        ∃ (F : Nat → List SV) (G : Nat → St) (X : Nat → SV), F n = env ∧ G n = st ∧ (∀ i, n ≤ i → R (G i)) ∧
          (∀ i o, n ≤ i → ops[i]? = some o → F (i + 1) = putE (F i) o.dst (X i) ∧
            (if ks.contains i then EffFact P ops (G i) (G (i + 1)) o (F i) (X i) else G (i + 1) = G i ∧ ∀ s, (if el.contains i then s = s0 else R s) → OpFact P ops s o (F i) (X i))) ∧
          K (F (n + (o :: r).length)) (G (n + (o :: r).length)) := by
      intro X0 s' hrs' hrest hfact
      obtain ⟨F, G, X, f1, f2, f3, f4, f5⟩ := chainT (n + 1) tg r _ _ hr t3 hrs' hrest
      refine ⟨fun i => if i = n then env else F i, fun i => if i = n then st else G i, fun i => if i = n then X0 else X i, by simp, by simp, fun i hi => ?_, fun i p hi hp => ?_, ?_⟩
      · by_cases e : i = n
        · simp only [if_pos e]; exact hrs
        · simp only [if_neg e]; exact f3 i (by omega)
      · by_cases e : i = n
        · subst e
          rw [ho] at hp; cases hp
          simp only [if_true, show ¬ i + 1 = i by omega, if_false]
          refine ⟨f1, ?_⟩
          rw [f2]
          exact hfact
        · simp only [if_neg e, show ¬ i + 1 = n by omega, if_false]
          exact f4 i p (by omega) hp
      · simp only [List.length_cons]
        rw [if_neg (by omega), if_neg (by omega), show n + (r.length + 1) = n + 1 + r.length by omega]
        exact f5
    have turn : ∀ (X0 : SV) (s' : St), ks.contains n = true → effSpec P M o (onlyAt (opTmps o.op.operands.toList) 0 env) st (fun x s => x = X0 ∧ s = s') → o.guard = none →
        (if ks.contains n then EffFact P ops st s' o env X0 else s' = st ∧ ∀ s, (if el.contains n then s = s0 else R s) → OpFact P ops s o env X0) := by
      intro X0 s' hk h1 h2
      rw [if_pos hk]
      intro σ w a env' hI hR hs hlen
      refine ⟨h2, fun _ _ _ => False, fun _ _ _ h => h, ?_⟩
      refine upon_mono ?_ (fun _ _ _ h => h) (aop_eff h1 σ w a hI (rep_only hR hs hlen))
      rintro a' w' ⟨v, x, s1, σ', rfl, ⟨rfl, rfl⟩, hI', hr', hX⟩
      exact ⟨v, σ', rfl, hI', hX, hr'⟩
    match t, t1, t2, h with
    | 0, t1, t2, h =>
      rw [drawU_0] at h
      obtain ⟨X0, h1, h2⟩ := fact_of h
      refine fin X0 st hrs h2 ?_
      have k1 : ks.contains n = false := t1
      have k2 : el.contains n = true := t2
      rw [k1, k2]
      simp only [Bool.false_eq_true, if_false, if_true]
      exact ⟨trivial, fun s e => by rw [e]; exact h1⟩
    | 1, t1, t2, h =>
      rw [drawU_1] at h
      obtain ⟨hs, hg, he⟩ := h
      obtain ⟨X0, s', h1, h2, h3⟩ := store_ext hs he
      exact fin X0 s' h2 h3 (turn X0 s' t1 h1 hg)
    | 2, t1, t2, h =>
      rw [drawU_2] at h
      obtain ⟨X0, h1, h2, h3⟩ := fact_of h
      refine fin X0 st hrs h3 ?_
      have k1 : ks.contains n = false := t1
      have k2 : el.contains n = false := t2
      rw [k1, k2]
      simp only [Bool.false_eq_true, if_false]
      refine ⟨trivial, fun s hs => ?_⟩
      obtain ⟨X1, g1, rfl⟩ := fact_of (h2 s hs)
      exact g1
    | 3, t1, t2, h =>
      rw [drawU_3] at h
      obtain ⟨X0, s', h1, h2, h3, h4⟩ := h
      exact fin X0 s' h3 h4 (turn X0 s' t1 h1 h2)
    | n + 4, _, _, h => exact h.elim
  | n, [], o :: r, env, st, hl, ht, hr, h => h.elim
  | n, 0 :: tg, [], env, st, hl, ht, hr, h => h.elim
  | n, 1 :: tg, [], env, st, hl, ht, hr, h => h.elim
  | n, 2 :: tg, [], env, st, hl, ht, hr, h => h.elim
  | n, 3 :: tg, [], env, st, hl, ht, hr, h => h.elim
  | n, (k + 4) :: tg, [], env, st, hl, ht, hr, h => h.elim
def tagsAll (ops : Array Oper) (tags : List Nat) : Bool :=
  flowOk ops && ordOk ops (ksOf 0 tags) && (ksOf 0 tags).all (· < ops.size) && (elOf 0 tags).all (early ops (ksOf 0 tags)) && tagsOk (ksOf 0 tags) (elOf 0 tags) 0 tags
theorem awp_drawT (M : List Nat) (tags : List Nat) (R : St → Prop) {id : Nat} {ops : Array Oper} {Q : Exit → List SV → St → Prop} {env : List SV} {st : St} (hm : P.follows .mixedOrders = true) (ht : tagsAll ops tags = true)
    (hR : R st) (h : drawU P M (ops.toList.map (·.dst)) R st tags ops.toList env st fun e s => Q .normal e s) : AWp P (.region id ops true) Q env st := by
  simp only [tagsAll, Bool.and_eq_true] at ht
  obtain ⟨⟨⟨⟨h1, h2⟩, h3⟩, h4⟩, h5⟩ := ht
  exact awp_chain _ _ R hm h1 h2 h3 h4 (chainT 0 tags ops.toList env st rfl h5 hR h)
end Go.AL
set_option linter.unusedVariables false
namespace Go.AL
variable {P : Program}
def midOk (ops : Array Oper) (k : Nat) : Bool := decide (k < ops.size) && (List.range ops.size).all fun i => decide (i = k) || (if i < k then ancB ops ops.size k i else ancB ops ops.size i k)
def drawN (P : Program) (M : List Nat) (ds : List (Option Tmp)) : Nat → List Oper → List SV → St → (List SV → St → Prop) → Prop
  | 0, o :: r, env, st, K => o.guard = none ∧ effSpec P M o (onlyAt (opTmps o.op.operands.toList) 0 env) st fun x s => drawSpec P M ds r (putE env o.dst x) s fun e => K e s
  | k + 1, o :: r, env, st, K => d1Spec P M ds o env st fun x => drawN P M ds k r (putE env o.dst x) st K
  | _, [], _, _, _ => False
theorem chainN {M : List Nat} {ops : Array Oper} {st : St} {K : List SV → St → Prop} {k : Nat} : ∀ (d n : Nat) (l : List Oper) (env : List SV), n + d = k → ops.toList.drop n = l → drawN P M (ops.toList.map (·.dst)) d l env st K →
    ∃ (F : Nat → List SV) (X : Nat → SV), F n = env ∧ (∀ i o, n ≤ i → i < k → ops[i]? = some o → OpFact P ops st o (F i) (X i) ∧ F (i + 1) = putE (F i) o.dst (X i)) ∧
      ∃ o, ops[k]? = some o ∧ o.guard = none ∧ effSpec P M o (onlyAt (opTmps o.op.operands.toList) 0 (F k)) st fun x s => drawSpec P M (ops.toList.map (·.dst)) (ops.toList.drop (k + 1)) (putE (F k) o.dst x) s fun e => K e s
  | 0, n, [], env, hk, hl, h => h.elim
  | d + 1, n, [], env, hk, hl, h => h.elim
  | 0, n, o :: r, env, hk, hl, h => by
    obtain rfl : n = k := by omega
    have ho : ops[n]? = some o := by
      have : (ops.toList.drop n)[0]? = some o := by rw [hl]; rfl
      rw [List.getElem?_drop, Nat.add_zero, Array.getElem?_toList] at this
      exact this
    have hr : ops.toList.drop (n + 1) = r := by rw [← List.drop_drop, hl]; rfl
    refine ⟨fun _ => env, fun _ => .any, rfl, fun i o h1 h2 => by omega, o, ho, h.1, ?_⟩
    rw [hr]
    exact h.2
  | d + 1, n, o :: r, env, hk, hl, h => by
    have ho : ops[n]? = some o := by
      have : (ops.toList.drop n)[0]? = some o := by rw [hl]; rfl
      rw [List.getElem?_drop, Nat.add_zero, Array.getElem?_toList] at this
      exact this
    have hr : ops.toList.drop (n + 1) = r := by rw [← List.drop_drop, hl]; rfl
    obtain ⟨x, h1, h2⟩ := fact_of h
    obtain ⟨F, X, f1, f2, q, f3, f4, f5⟩ := chainN (k := k) d (n + 1) r _ (by omega) hr h2
    refine ⟨fun i => if i = n then env else F i, fun i => if i = n then x else X i, by simp, fun i p hi hik hp => ?_, q, f3, f4, ?_⟩
    · by_cases e : i = n
      · subst e
        rw [ho] at hp; cases hp
        simp only [if_true, show ¬ i + 1 = i by omega, if_false]
        exact ⟨h1, f1⟩
      · simp only [if_neg e, show ¬ i + 1 = n by omega, if_false]
        exact f2 i p (by omega) hik hp
    · simp only [show ¬ k = n by omega, if_false]
      exact f5
theorem awp_drawN (M : List Nat) (k : Nat) {id : Nat} {ops : Array Oper} {Q : Exit → List SV → St → Prop} {env : List SV} {st : St} (hm : P.follows .mixedOrders = true) (hf : flowOk ops = true) (hmid : midOk ops k = true)
    (h : drawN P M (ops.toList.map (·.dst)) k ops.toList env st fun e s => Q .normal e s) : AWp P (.region id ops true) Q env st := by
  intro σ w a hI hR D hd
  obtain ⟨Fp, Xp, p1, p2, ok, p3, p4, p5⟩ := chainN (k := k) k 0 ops.toList env (by omega) rfl h
  unfold midOk at hmid
  simp only [Bool.and_eq_true, decide_eq_true_eq, List.all_eq_true, Bool.or_eq_true, List.mem_range] at hmid
  obtain ⟨hk, hmid⟩ := hmid
  have hpre : ∀ i, i < k → ancB ops ops.size k i = true := fun i hi => by
    have := hmid i (by omega)
    rw [if_pos hi] at this
    exact this.resolve_left (by omega)
  have hpost : ∀ i, k < i → i < ops.size → ancB ops ops.size i k = true := fun i hi hi2 => by
    have := hmid i hi2
    rw [if_neg (by omega)] at this
    exact this.resolve_left (by omega)
  have hflow : ∀ i j p q, ops[i]? = some p → ops[j]? = some q → i ≠ j → ∀ t, q.dst = some t → (t ∈ looks ops p → if j < i then dirEdge p j = true else dirEdge q i = true) ∧ p.dst ≠ some t := by
    intro i j p q hp hq hne t ht
    have h1 := lt_of_some hp
    have h2 := lt_of_some hq
    unfold flowOk at hf
    rw [List.all_eq_true] at hf
    have h3 := hf i (by simpa using h1)
    simp only [Bool.and_eq_true, List.all_eq_true] at h3
    have h4 := h3.1 j (by simpa using h2)
    unfold flowAt at h4
    rw [hp, hq] at h4
    simp only [ht, Bool.or_eq_true, beq_iff_eq, Bool.and_eq_true, Bool.not_eq_true', bne_iff_ne, ne_eq] at h4
    rcases h4 with h4 | ⟨h4, h5⟩
    · exact absurd h4 hne
    · refine ⟨fun hlk => ?_, h5⟩
      rcases h4 with h4 | h4
      · simp [hlk] at h4
      · split <;> rename_i hji <;> simpa [hji] using h4
  have hback : ∀ i p, ops[i]? = some p → ∀ e, e ∈ p.after.toList → Region.binds .any e = true → e.on < i := by
    intro i p hp e he hb
    have h1 := lt_of_some hp
    unfold flowOk at hf
    rw [List.all_eq_true] at hf
    have h3 := hf i (by simpa using h1)
    simp only [Bool.and_eq_true, hp, Option.map_some, Option.getD_some, List.all_eq_true] at h3
    have h4 := h3.2 e he
    simpa [hb] using h4
  have flen0 : ∀ (F : Nat → List SV) (X : Nat → SV), F 0 = env → (∀ i o, ops[i]? = some o → F (i + 1) = putE (F i) o.dst (X i)) → ∀ i, i ≤ ops.size → (F i).length = env.length := by
    intro F X f1 f2 i
    induction i with
    | zero => intro _; rw [f1]
    | succ i ih =>
      intro hi
      have hp : ops[i]? = some ops[i] := by simp [show i < ops.size by omega]
      rw [f2 i _ hp, length_putE, ih (by omega)]
  have fget0 : ∀ (F : Nat → List SV) (X : Nat → SV), F 0 = env → (∀ i o, ops[i]? = some o → F (i + 1) = putE (F i) o.dst (X i)) →
      ∀ i, i ≤ ops.size → ∀ t, t < env.length → (∀ j, j < i → writes ops j t = true → (F i).getD t .any = X j) ∧ ((∀ j, j < i → writes ops j t = false) → (F i).getD t .any = env.getD t .any) := by
    intro F X f1 f2 i
    have flen := flen0 F X f1 f2
    induction i with
    | zero => intro _ t ht; exact ⟨fun j hj => absurd hj (Nat.not_lt_zero _), fun _ => by rw [f1]⟩
    | succ i ih =>
      intro hi t ht
      obtain ⟨ih1, ih2⟩ := ih (by omega) t ht
      have hp : ops[i]? = some ops[i] := by simp [show i < ops.size by omega]
      have he := f2 i _ hp
      have hg : (F (i + 1)).getD t .any = if ops[i].dst = some t then X i else (F i).getD t .any := by rw [he]; exact putE_get (by rw [flen i (by omega)]; exact ht)
      have hwi : writes ops i t = true ↔ ops[i].dst = some t := by simp [writes, hp]
      refine ⟨fun j hj hw => ?_, fun hno => ?_⟩
      · rw [hg]
        by_cases c : ops[i].dst = some t
        · rw [if_pos c]
          by_cases e : j = i
          · rw [e]
          · have hjl : j < ops.size := by omega
            have hq : ops[j]? = some ops[j] := by simp [hjl]
            have hjd : ops[j].dst = some t := by simpa [writes, hq] using hw
            exact absurd c (hflow i j _ _ hp hq (by omega) t hjd).2
        · rw [if_neg c]
          have e : j ≠ i := by rintro rfl; exact c (hwi.1 hw)
          exact ih1 j (by omega) hw
      · rw [hg, if_neg (fun c => by have := hno i (by omega); rw [hwi.2 c] at this; cases this)]
        exact ih2 fun j hj => hno j (by omega)
  let Inv' : Array Bool → Act → World → Prop := fun listed a' w' => ∃ (s : St) (σ' : Sig) (F : Nat → List SV) (X : Nat → SV), F 0 = env ∧ (∀ i o, ops[i]? = some o → F (i + 1) = putE (F i) o.dst (X i)) ∧
    (∀ i o, ops[i]? = some o → listed.getD i false = false → i ≠ k → (i < k ∨ listed.getD k false = true) → OpFact P ops s o (F i) (X i)) ∧
    (listed.getD k false = true → Q .normal (F ops.size) s) ∧ (listed.getD k false = false → s = st ∧ F k = Fp k) ∧
    Inv s σ' w' ∧ Ext st σ w s σ' w' ∧ a'.defers = D ∧ listed.size = ops.size ∧
    RepEnv s σ' w' (mixE ops listed env (F ops.size)) a'.tmps ∧ ∀ i, listed.getD i false = true → ∀ p, ops[i]? = some p → ∀ e, e ∈ p.after.toList → Region.binds .any e = true → listed.getD e.on false = true
  have key : ∀ (fuel : Nat) (listed : Array Bool) (a' : Act) (w' : World), ((List.range ops.size).filter fun j => !listed.getD j false).length = fuel → Inv' listed a' w' →
      wpAny P .any ops (fun e a' w' => Post D (Q e) st σ w a' w') fuel listed a' w' := by
    intro fuel
    induction fuel with
    | zero =>
      intro listed a' w' hc hI'
      obtain ⟨s, σ', F, X, f1, f2, ff, fq, fs, i1, i2, i3, i4, i5, i6⟩ := hI'
      have flen := flen0 F X f1 f2
      have fget := fget0 F X f1 f2
      have hall : ∀ j, j < ops.size → listed.getD j false = true := by
        intro j hj
        have h0 : (List.range ops.size).filter (fun j => !listed.getD j false) = [] := List.eq_nil_of_length_eq_zero hc
        rw [List.filter_eq_nil_iff] at h0
        simpa using h0 j (by simpa using hj)
      refine ⟨?_, i3, mixE ops listed env (F ops.size), s, σ', ?_, i1, i5, i2⟩
      · unfold Region.ready
        rw [List.filter_eq_nil_iff]
        intro j hj
        have hj' : j < ops.size := by simpa using hj
        have h1 := hall j hj'
        have : listed.getD j true = true := by
          rw [Array.getD_eq_getD_getElem?] at h1 ⊢
          rw [Array.getElem?_eq_getElem (by omega)] at h1 ⊢
          exact h1
        simp [this]
      · have e : mixE ops listed env (F ops.size) = F ops.size := by
          apply List.ext_getElem?
          intro t
          by_cases ht : t < env.length
          · have h1 := getD_mixE (ops := ops) (listed := listed) (eN := F ops.size) ht
            have hl1 : t < (mixE ops listed env (F ops.size)).length := by rw [length_mixE]; exact ht
            have hl2 : t < (F ops.size).length := by rw [flen _ (Nat.le_refl _)]; exact ht
            rw [List.getElem?_eq_getElem hl1, List.getElem?_eq_getElem hl2]
            simp only [List.getD_eq_getElem?_getD, List.getElem?_eq_getElem hl1, List.getElem?_eq_getElem hl2, Option.getD_some] at h1
            rw [h1]
            split
            · rfl
            · rename_i hno
              have h2 := (fget ops.size (Nat.le_refl _) t ht).2 (fun j hj => by
                cases hw : writes ops j t with
                | false => rfl
                | true =>
                  exfalso
                  apply hno
                  unfold wr
                  rw [List.any_eq_true]
                  exact ⟨j, by simpa using hj, by rw [hall j hj, hw]; rfl⟩)
              simp only [List.getD_eq_getElem?_getD, List.getElem?_eq_getElem hl2, Option.getD_some] at h2
              rw [h2]
          · rw [List.getElem?_eq_none (by rw [length_mixE]; omega), List.getElem?_eq_none (by rw [flen _ (Nat.le_refl _)]; omega)]
        rw [e]
        exact fq (hall k hk)
    | succ fuel ih =>
      intro listed a' w' hc hI'
      obtain ⟨s, σ', F, X, f1, f2, ff, fq, fs, i1, i2, i3, i4, i5, i6⟩ := hI'
      have flen := flen0 F X f1 f2
      have fget := fget0 F X f1 f2
      have hready : ∀ i, i ∈ Region.ready .any ops listed ↔ i < ops.size ∧ listed.getD i true = false ∧ ∀ p, ops[i]? = some p → ∀ e, e ∈ p.after.toList → Region.binds .any e = true → listed.getD e.on false = true := by
        intro i
        unfold Region.ready
        rw [List.mem_filter]
        constructor
        · rintro ⟨h1, h2⟩
          have h1' : i < ops.size := by simpa using h1
          simp only [Bool.and_eq_true, Bool.not_eq_true'] at h2
          refine ⟨h1', h2.1, fun p hp e he hb => ?_⟩
          have h3 := h2.2
          rw [hp] at h3
          simp only [Option.map_some, Option.getD_some, Array.all_eq_true'] at h3
          have := h3 e (by simpa using he)
          simpa [hb] using this
        · rintro ⟨h1, h2, h3⟩
          refine ⟨by simpa using h1, ?_⟩
          have hp : ops[i]? = some ops[i] := by simp [h1]
          simp only [h2, hp, Option.map_some, Option.getD_some, Bool.not_false, Bool.true_and, Array.all_eq_true']
          intro e he
          cases hb : Region.binds .any e with
          | false => rfl
          | true => simpa using h3 _ hp e (by simpa using he) hb
      refine ⟨fun hnil => ?_, fun i hi => ?_⟩
      · -- the least one that is not listed is ready
        exfalso
        have hex : ∃ j, j < ops.size ∧ listed.getD j false = false := by
          have hne : (List.range ops.size).filter (fun j => !listed.getD j false) ≠ [] := by intro h0; rw [h0] at hc; cases hc
          obtain ⟨j, hj⟩ := List.exists_mem_of_ne_nil _ hne
          rw [List.mem_filter] at hj
          exact ⟨j, by simpa using hj.1, by simpa using hj.2⟩
        obtain ⟨j, hj1, hj2⟩ := hex
        have least : ∀ n, ∀ j, j ≤ n → j < ops.size → listed.getD j false = false → ∃ i, i < ops.size ∧ listed.getD i false = false ∧ ∀ k, k < i → listed.getD k false = true := by
          intro n
          induction n with
          | zero =>
            intro j hj h1 h2
            exact ⟨j, h1, h2, fun k hk => by omega⟩
          | succ n ihn =>
            intro j hj h1 h2
            by_cases c : ∃ k, k < j ∧ listed.getD k false = false
            · obtain ⟨k, hk1, hk2⟩ := c
              exact ihn k (by omega) (by omega) hk2
            · refine ⟨j, h1, h2, fun k hk => ?_⟩
              cases hv : listed.getD k false with
              | true => rfl
              | false => exact absurd ⟨k, hk, hv⟩ c
        obtain ⟨i, hi1, hi2, hi3⟩ := least j j (Nat.le_refl _) hj1 hj2
        have : i ∈ Region.ready .any ops listed := (hready i).2 ⟨hi1, by
          rw [Array.getD_eq_getD_getElem?] at hi2 ⊢
          rw [Array.getElem?_eq_getElem (by omega)] at hi2 ⊢
          exact hi2, fun p hp e he hb => hi3 _ (hback i p hp e he hb)⟩
        rw [hnil] at this
        cases this
      · obtain ⟨hi1, hi2, hi3⟩ := (hready i).1 hi
        have hp : ops[i]? = some ops[i] := by simp [hi1]
        have hnl : listed.getD i false = false := by
          rw [Array.getD_eq_getD_getElem?] at hi2 ⊢
          rw [Array.getElem?_eq_getElem (by omega)] at hi2 ⊢
          exact hi2
        have hagree : ∀ t ∈ looks ops ops[i], (mixE ops listed env (F ops.size)).getD t .any = (F i).getD t .any := by
          intro t ht
          by_cases hlt : t < env.length
          · rw [getD_mixE hlt]
            obtain ⟨g1, g2⟩ := fget i (by omega) t hlt
            obtain ⟨gN1, gN2⟩ := fget ops.size (Nat.le_refl _) t hlt
            by_cases c : ∃ j, j < i ∧ writes ops j t = true
            · obtain ⟨j, hj, hw⟩ := c
              have hjl : j < ops.size := by omega
              have hq : ops[j]? = some ops[j] := by simp [hjl]
              have hjd : ops[j].dst = some t := by simpa [writes, hq] using hw
              have hedge := (hflow i j _ _ hp hq (by omega) t hjd).1 ht
              rw [if_pos hj] at hedge
              have hlj : listed.getD j false = true := by
                unfold dirEdge at hedge
                rw [List.any_eq_true] at hedge
                obtain ⟨e, he1, he2⟩ := hedge
                simp only [Bool.and_eq_true, beq_iff_eq] at he2
                have := hi3 _ hp e he1 he2.1
                rwa [he2.2] at this
              rw [if_pos (by unfold wr; rw [List.any_eq_true]; exact ⟨j, by simpa using hjl, by rw [hlj, hw]; rfl⟩), g1 j hj hw, gN1 j hjl hw]
            · rw [g2 fun j hj => by
                cases hw : writes ops j t with
                | false => rfl
                | true => exact absurd ⟨j, hj, hw⟩ c]
              rw [if_neg]
              intro hwr
              unfold wr at hwr
              rw [List.any_eq_true] at hwr
              obtain ⟨j, hj1, hj2⟩ := hwr
              simp only [Bool.and_eq_true] at hj2
              have hjl : j < ops.size := by simpa using hj1
              have hq : ops[j]? = some ops[j] := by simp [hjl]
              have hjd : ops[j].dst = some t := by simpa [writes, hq] using hj2.2
              have hne : i ≠ j := by rintro rfl; rw [hj2.1] at hnl; cases hnl
              have hnji : ¬ j < i := fun hji => c ⟨j, hji, hj2.2⟩
              have hedge := (hflow i j _ _ hp hq hne t hjd).1 ht
              rw [if_neg hnji] at hedge
              unfold dirEdge at hedge
              rw [List.any_eq_true] at hedge
              obtain ⟨e, he1, he2⟩ := hedge
              simp only [Bool.and_eq_true, beq_iff_eq] at he2
              have := i6 j hj2.1 _ hq e he1 he2.1
              rw [he2.2, hnl] at this
              cases this
          · rw [List.getD_eq_getElem?_getD, List.getD_eq_getElem?_getD, List.getElem?_eq_none (by rw [length_mixE]; omega), List.getElem?_eq_none (by rw [flen i (by omega)]; omega)]
        have gl : ∀ k, (listed.setIfInBounds i true).getD k false = if k = i then true else listed.getD k false := by
          intro k
          rw [Array.getD_eq_getD_getElem?, Array.getD_eq_getD_getElem?]
          by_cases e : i = k
          · subst e; simp [show i < listed.size by omega]
          · rw [Array.getElem?_setIfInBounds_ne e, if_neg (fun h => e h.symm)]
        have hcl2 : ∀ k, (listed.setIfInBounds i true).getD k false = true → ∀ p, ops[k]? = some p → ∀ e, e ∈ p.after.toList → Region.binds .any e = true → (listed.setIfInBounds i true).getD e.on false = true := by
          intro k hk p hp' e he hb
          rw [gl] at hk ⊢
          split
          · rfl
          · by_cases ek : k = i
            · subst ek
              rw [hp] at hp'; cases hp'
              exact hi3 _ hp e he hb
            · rw [if_neg ek] at hk
              exact i6 k hk p hp' e he hb
        have hmix : ∀ (s2 : St) (σ2 : Sig) (w2 : World) (v : Value) (Y : SV) (F' : Nat → List SV), RepEnv s2 σ2 w2 (mixE ops listed env (F ops.size)) a'.tmps → Rep s2 σ2 w2 Y v →
            (∀ t, t < env.length → (ops[i].dst = some t → (F' ops.size).getD t .any = Y) ∧ (ops[i].dst ≠ some t → wr ops listed t = true → (F' ops.size).getD t .any = (F ops.size).getD t .any)) →
            RepEnv s2 σ2 w2 (mixE ops (listed.setIfInBounds i true) env (F' ops.size)) (a'.put ops[i].dst v).tmps := by
          intro s2 σ2 w2 v Y F' hRE hr2 hF
          refine ⟨?_, fun t ht => ?_⟩
          · rw [length_mixE]
            have := hRE.1
            rw [length_mixE] at this
            cases ops[i].dst with
            | none => exact this
            | some d => simpa [Act.put] using this
          · rw [length_mixE] at ht
            have hput := rep_put hRE ops[i].dst hr2
            have h1 := hput.2 t (by rw [length_putE, length_mixE]; exact ht)
            rw [putE_get (by rw [length_mixE]; exact ht)] at h1
            have e : (mixE ops (listed.setIfInBounds i true) env (F' ops.size)).getD t .any = if ops[i].dst = some t then Y else (mixE ops listed env (F ops.size)).getD t .any := by
              rw [getD_mixE ht, getD_mixE ht]
              by_cases c : ops[i].dst = some t
              · rw [if_pos c, if_pos]
                · exact (hF t ht).1 c
                · unfold wr
                  rw [List.any_eq_true]
                  exact ⟨i, by simpa using hi1, by rw [gl, if_pos rfl]; simp [writes, hp, c]⟩
              · rw [if_neg c]
                have e2 : wr ops (listed.setIfInBounds i true) t = wr ops listed t := by
                  unfold wr
                  apply Bool.eq_iff_iff.2
                  rw [List.any_eq_true, List.any_eq_true]
                  constructor
                  · rintro ⟨j, hj1, hj2⟩
                    simp only [Bool.and_eq_true] at hj2
                    refine ⟨j, hj1, ?_⟩
                    rw [gl] at hj2
                    by_cases ej : j = i
                    · subst ej; exact absurd (by simpa [writes, hp] using hj2.2) c
                    · rw [if_neg ej] at hj2; simp [hj2.1, hj2.2]
                  · rintro ⟨j, hj1, hj2⟩
                    simp only [Bool.and_eq_true] at hj2
                    refine ⟨j, hj1, ?_⟩
                    rw [gl]
                    split <;> simp [hj2.1, hj2.2]
                rw [e2]
                by_cases cw : wr ops listed t = true
                · rw [if_pos cw, if_pos cw, (hF t ht).2 c cw]
                · rw [if_neg cw, if_neg cw]
            rw [e]
            exact h1
        have hcount : ((List.range ops.size).filter fun j => !(listed.setIfInBounds i true).getD j false).length = fuel := by
          have h1 : ((List.range ops.size).filter fun j => !listed.getD j false) = (List.range ops.size).filter fun j => !listed.getD j false := rfl
          have hperm : ∀ l : List Nat, l.Nodup → i ∈ l → (l.filter fun j => !listed.getD j false).length = (l.filter fun j => !(listed.setIfInBounds i true).getD j false).length + 1 := by
            intro l
            have gl : ∀ k, (listed.setIfInBounds i true).getD k false = if k = i then true else listed.getD k false := by
              intro k
              rw [Array.getD_eq_getD_getElem?, Array.getD_eq_getD_getElem?]
              by_cases e : i = k
              · subst e; simp [show i < listed.size by omega]
              · rw [Array.getElem?_setIfInBounds_ne e, if_neg (fun h => e h.symm)]
            induction l with
            | nil => intro _ h; cases h
            | cons x r ihr =>
              intro hnd hmem
              rw [List.nodup_cons] at hnd
              by_cases e : x = i
              · subst e
                have hrest : (r.filter fun j => !listed.getD j false) = r.filter fun j => !(listed.setIfInBounds x true).getD j false := by
                  apply List.filter_congr
                  intro j hj
                  rw [gl, if_neg (by rintro rfl; exact hnd.1 hj)]
                rw [List.filter_cons, List.filter_cons, if_pos (by rw [hnl]; rfl), if_neg (by rw [gl, if_pos rfl]; decide), hrest]
                simp
              · have hm : i ∈ r := by
                  cases hmem with
                  | head => exact absurd rfl e
                  | tail _ h => exact h
                have := ihr hnd.2 hm
                simp only [List.filter_cons, gl x, if_neg e]
                split <;> simp only [List.length_cons, this]
          have := hperm _ List.nodup_range (by simpa using hi1)
          omega
        unfold wpOp
        rw [hp]
        simp only
        by_cases hik : i = k
        · -- the one in the midst
          subst hik
          obtain rfl : ok = ops[i] := by rw [hp] at p3; cases p3; rfl
          obtain ⟨rfl, hFk⟩ := fs hnl
          have hlow : ∀ j, j < i → listed.getD j false = true := fun j hj => anc_listed i6 _ i j hi3 (hpre j hj)
          have hhigh : ∀ j, i < j → j < ops.size → listed.getD j false = false := fun j hj hj2 => by
            cases hv : listed.getD j false with
            | false => rfl
            | true =>
              have := anc_listed i6 _ j i (i6 j hv) (hpost j hj hj2)
              rw [hnl] at this; cases this
          have hwt : Region.wanted ops[i] (yielded ops a'.tmps) = true := by simp [Region.wanted, p4]
          simp only [hwt, if_true]
          have hlook := rep_only (E := F i) i5 hagree (by rw [length_mixE, flen i (by omega)])
          rw [hFk] at hlook
          refine .inl (upon_mono ?_ (fun _ _ _ h => h.elim) (aop_eff p5 σ' w' a' i1 hlook))
          rintro a2 w2 ⟨v, x, s1, σ2, rfl, hx, hI2, hr2, hX2⟩
          obtain ⟨F2, X2, g1, g2, g3⟩ := chain_of (i + 1) _ _ rfl hx
          have hsz : i + 1 + (List.drop (i + 1) ops.toList).length = ops.size := by rw [List.length_drop]; simp; omega
          rw [hsz] at g3
          refine ih _ _ _ hcount ⟨s1, σ2, fun j => if j ≤ i then F j else F2 j, fun j => if j < i then X j else if j = i then x else X2 j, by simp [f1], fun j o ho => ?_, fun j o ho hnl2 hne _ => ?_, fun _ => ?_, fun hc2 => ?_, hI2, i2.trans hX2, by rw [put_defers]; exact i3, by simpa using i4, ?_, hcl2⟩
          · by_cases c1 : j < i
            · simp only [if_pos c1, if_pos (show j ≤ i by omega), if_pos (show j + 1 ≤ i by omega)]
              exact f2 j o ho
            · by_cases c2 : j = i
              · subst c2
                simp only [if_neg c1, if_true, if_pos (Nat.le_refl j), if_neg (show ¬ j + 1 ≤ j by omega)]
                rw [hp] at ho; cases ho
                rw [g1, hFk]
              · simp only [if_neg c1, if_neg c2, if_neg (show ¬ j ≤ i by omega), if_neg (show ¬ j + 1 ≤ i by omega)]
                exact (g2 j o (by omega) ho).2
          · have hj : i < j := by
              rcases Nat.lt_or_ge i j with q | q
              · exact q
              · rw [gl, if_neg hne, hlow j (by omega)] at hnl2; cases hnl2
            simp only [if_neg (show ¬ j < i by omega), if_neg (show ¬ j = i by omega), if_neg (show ¬ j ≤ i by omega)]
            exact (g2 j o (by omega) ho).1
          · simp only [if_neg (show ¬ ops.size ≤ i by omega)]
            exact g3
          · rw [gl, if_pos rfl] at hc2; cases hc2
          · refine hmix s1 σ2 w2 v x (fun j => if j ≤ i then F j else F2 j) (i5.ext hX2) hr2 fun t ht => ?_
            have hch : ∀ j o, ops[j]? = some o → (fun j => if j ≤ i then F j else F2 j) (j + 1) = putE ((fun j => if j ≤ i then F j else F2 j) j) o.dst ((fun j => if j < i then X j else if j = i then x else X2 j) j) := fun j o ho => by
              by_cases c1 : j < i
              · simp only [if_pos c1, if_pos (show j ≤ i by omega), if_pos (show j + 1 ≤ i by omega)]
                exact f2 j o ho
              · by_cases c2 : j = i
                · subst c2
                  simp only [if_neg c1, if_true, if_pos (Nat.le_refl j), if_neg (show ¬ j + 1 ≤ j by omega)]
                  rw [hp] at ho; cases ho
                  rw [g1, hFk]
                · simp only [if_neg c1, if_neg c2, if_neg (show ¬ j ≤ i by omega), if_neg (show ¬ j + 1 ≤ i by omega)]
                  exact (g2 j o (by omega) ho).2
            obtain ⟨n1, _⟩ := fget0 (fun j => if j ≤ i then F j else F2 j) (fun j => if j < i then X j else if j = i then x else X2 j) (by simp [f1]) hch ops.size (Nat.le_refl _) t ht
            obtain ⟨o1, _⟩ := fget ops.size (Nat.le_refl _) t ht
            refine ⟨fun c => ?_, fun c hw => ?_⟩
            · have := n1 i hi1 (by simp [writes, hp, c])
              simp only [Nat.lt_irrefl, if_false, if_true] at this
              exact this
            · unfold wr at hw
              rw [List.any_eq_true] at hw
              obtain ⟨j, hj1, hj2⟩ := hw
              simp only [Bool.and_eq_true] at hj2
              have hjl : j < ops.size := by simpa using hj1
              have hji : j < i := by
                rcases Nat.lt_trichotomy j i with q | q | q
                · exact q
                · subst q; exact absurd (by simpa [writes, hp] using hj2.2) c
                · rw [hhigh j q hjl] at hj2; cases hj2.1
              have e1 := n1 j hjl hj2.2
              simp only [if_pos hji] at e1
              rw [e1, o1 j hjl hj2.2]
        · -- another one
          have hside : i < k ∨ listed.getD k false = true := by
            rcases Nat.lt_trichotomy i k with q | q | q
            · exact .inl q
            · exact absurd q hik
            · exact .inr (anc_listed i6 _ i k hi3 (hpost i q hi1))
          obtain ⟨hrun, hskip⟩ := ff i _ hp hnl hik hside σ' w' a' _ i1 i5 hagree (by rw [length_mixE, flen i (by omega)])
          have hdone : ∀ (v : Value) (σ2 : Sig) (w2 : World), Inv s σ2 w2 → Ext s σ' w' s σ2 w2 → Rep s σ2 w2 (X i) v → Inv' (listed.setIfInBounds i true) (a'.put ops[i].dst v) w2 := by
            intro v σ2 w2 hI2 hX2 hr2
            have glk : (listed.setIfInBounds i true).getD k false = listed.getD k false := by rw [gl, if_neg (fun q => hik q.symm)]
            refine ⟨s, σ2, F, X, f1, f2, fun j o ho hnl2 hne hor => ?_, fun q => fq (by rw [← glk]; exact q), fun q => fs (by rw [← glk]; exact q), hI2, i2.trans hX2, by rw [put_defers]; exact i3, by simpa using i4, ?_, hcl2⟩
            · rw [gl] at hnl2
              by_cases e : j = i
              · rw [if_pos e] at hnl2; cases hnl2
              · rw [if_neg e] at hnl2
                exact ff j o ho hnl2 hne (by rw [← glk]; exact hor)
            · refine hmix s σ2 w2 v (X i) F (i5.ext hX2) hr2 fun t ht => ⟨fun c => ?_, fun _ _ => rfl⟩
              exact (fget ops.size (Nat.le_refl _) t ht).1 i hi1 (by simp [writes, hp, c])
          cases hwt : Region.wanted ops[i] (yielded ops a'.tmps) with
          | true =>
            simp only [if_true]
            obtain ⟨Q0, hq0, hwp⟩ := hrun hwt
            refine .inl (upon_mono ?_ (fun e a w h => absurd h (hq0 e a w)) hwp)
            rintro a2 w2 ⟨v, σ2, rfl, hI2, hX2, hr2⟩
            exact ih _ _ _ hcount (hdone v σ2 w2 hI2 hX2 hr2)
          | false =>
            simp only [Bool.false_eq_true, if_false]
            exact ih _ _ _ hcount (hdone undef σ' w' i1 (Ext.refl _ _ _) (hskip hwt))
  have hd0 : Ext st σ w st σ { w with drawn := w.drawn + 1 } := Ext.drew _
  obtain ⟨F0, hF0⟩ : ∃ F0 : Nat → List SV, F0 = fun i => Nat.rec (motive := fun _ => List SV) env (fun j e => putE e ((ops[j]?).bind (·.dst)) (Xp j)) i := ⟨_, rfl⟩
  have z1 : F0 0 = env := by rw [hF0]; rfl
  have z2 : ∀ i o, ops[i]? = some o → F0 (i + 1) = putE (F0 i) o.dst (Xp i) := fun i o ho => by
    rw [hF0]
    show putE _ ((ops[i]?).bind (·.dst)) (Xp i) = _
    rw [ho]; rfl
  have z3 : ∀ i, i ≤ k → F0 i = Fp i := by
    intro i
    induction i with
    | zero => intro _; rw [z1, p1]
    | succ i ih =>
      intro hi
      have hp : ops[i]? = some ops[i] := by simp [show i < ops.size by omega]
      rw [z2 i _ hp, (p2 i _ (Nat.zero_le _) (by omega) hp).2, ih (by omega)]
  have lf : ∀ i, (Array.replicate ops.size false).getD i false = false := fun i => by simp [Array.getD]
  refine wp_region_any hm (key ops.size _ a _ ?_ ⟨st, σ, F0, Xp, z1, z2, fun i o ho _ hne hor => ?_, fun hc => ?_, fun _ => ⟨rfl, z3 k (Nat.le_refl _)⟩, hI.drew _, hd0, hd, by simp, ?_, fun i hi => ?_⟩)
  · have : ((List.range ops.size).filter fun j => !(Array.replicate ops.size false).getD j false) = List.range ops.size := by
      apply List.filter_eq_self.2
      intro j hj
      rw [lf]; rfl
    rw [this]; simp
  · have hik : i < k := hor.resolve_right (by rw [lf]; decide)
    rw [z3 i (by omega)]
    exact (p2 i o (Nat.zero_le _) hik ho).1
  · rw [lf] at hc; cases hc
  · have e : mixE ops (Array.replicate ops.size false) env (F0 ops.size) = env := by
      apply List.ext_getElem?
      intro t
      by_cases ht : t < env.length
      · have hw : wr ops (Array.replicate ops.size false) t = false := by
          unfold wr
          rw [List.any_eq_false]
          intro j hj
          rw [lf]; simp
        simp [mixE, hw, ht]
      · rw [List.getElem?_eq_none (by rw [length_mixE]; omega), List.getElem?_eq_none (by omega)]
    rw [e]
    exact hR.ext hd0
  · rw [lf] at hi; cases hi
section
variable {M : List Nat} {ds : List (Option Tmp)} {st : St} {o : Oper} {r : List Oper} {env : List SV}
theorem drawN_0 {K : List SV → St → Prop} : drawN P M ds 0 (o :: r) env st K = (o.guard = none ∧ effSpec P M o (onlyAt (opTmps o.op.operands.toList) 0 env) st fun x s => drawSpec P M ds r (putE env o.dst x) s fun e => K e s) := rfl
theorem drawN_s {k : Nat} {K : List SV → St → Prop} : drawN P M ds (k + 1) (o :: r) env st K = d1Spec P M ds o env st fun x => drawN P M ds k r (putE env o.dst x) st K := rfl
theorem drawN_congr {k : Nat} {l l' : List Oper} {env' : List SV} {st' : St} {K : List SV → St → Prop} (h2 : l = l') (h3 : env = env') (h4 : st = st') : drawN P M ds k l env st K = drawN P M ds k l' env' st' K := by rw [h2, h3, h4]
theorem drawU_congr {R : St → Prop} {s0 s0' : St} {tg : List Nat} {l l' : List Oper} {env' : List SV} {st' : St} {K : List SV → St → Prop} (h2 : l = l') (h3 : env = env') (h4 : st = st') (h5 : s0 = s0') : drawU P M ds R s0 tg l env st K = drawU P M ds R s0' tg l' env' st' K := by rw [h2, h3, h4, h5]
attribute [congr] drawN_congr drawU_congr
attribute [go_sem] drawN_0 drawN_s
end
end Go.AL
