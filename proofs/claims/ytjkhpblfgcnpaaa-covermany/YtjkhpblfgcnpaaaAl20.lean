/- The abstract layer, part 20: closed runs over trees: the whole. -/
import Derived.Test.YtjkhpblfgcnpaaaAl19
set_option linter.unusedVariables false
set_option linter.unusedSimpArgs false
namespace Go.AL
variable {P : Program}

noncomputable def evCT (P : Program) (cfg : Cfg) (k : Nat) : List Nat → Nat → Code → ET → St → CRT :=
  Nat.rec (motive := fun _ => List Nat → Nat → Code → ET → St → CRT) (fun _ _ _ _ _ => .fail) (fun _ ih M n c t st => stepT P (runFT P cfg ih) M n (ih M n) c t st) k

theorem evCT_succ {cfg : Cfg} (k : Nat) (M : List Nat) (n : Nat) (c : Code) (t : ET) (st : St) : evCT P cfg (k + 1) M n c t st = stepT P (runFT P cfg (evCT P cfg k)) M n (evCT P cfg k M n) c t st := rfl

/-- What a piece of code comes to over trees is so. -/
def SoundT (P : Program) (ev : List Nat → Nat → Code → ET → St → CRT) : Prop :=
  ∀ M n c t env st e t' s cl, Rl n t env → ev M n c t st = .go e t' s cl → ∃ env', AWp P c (fun e1 env1 s1 => e1 = e ∧ env1 = env' ∧ s1 = s) env st ∧ Keeps st s cl ∧ Rl n t' env'

theorem runFT_spec {cfg : Cfg} (hcfg : cfg.ok P) {ev : List Nat → Nat → Code → ET → St → CRT} (hev : SoundT P ev) : SoundCall P (runFT P cfg ev) := by
  intro f args st x s c h
  unfold runFT at h
  split at h
  · rename_i m hm
    obtain ⟨y, h1, h2⟩ := map_some h
    cases h2
    exact ⟨hcfg f m hm args _ h1 _, Keeps.same _ _⟩
  · split at h
    · rename_i fn hfn
      split at h
      · rename_i cd hb
        split at h
        · rename_i hle
          rw [lenR_eq] at hle
          have hR := entry_rl (n := fn.ntmps) (args := args) (by simpa using hle)
          split at h
          · rename_i e t s' c' hcd
            obtain ⟨env', k1, k2, k3⟩ := hev _ _ _ _ _ _ _ _ _ _ hR hcd
            have fin : ∀ l, (e = .normal ∨ e = .ret) → aResL P env' s' fn.results.toList = some l → finE (cfg.keep f) st (oneOf l) s' c' = some (x, s, c) →
                ACalls P f args (fun x' s'_1 => x' = x ∧ s'_1 = s) st ∧ Keeps st s c := by
              intro l he hl hf
              refine fin_spec (acalls_of hfn hb (k1.mono fun e1 env1 s1 ⟨q1, q2, q3⟩ => ?_)) k2 hf
              subst q1; subst q2; subst q3
              exact ⟨by rcases he with rfl | rfl <;> trivial, l, hl, rfl, rfl⟩
            simp only [aResT_eq k3, finT_eq] at h
            cases e with
            | normal =>
              simp only at h
              split at h
              · rename_i l hl; exact fin l (.inl rfl) hl h
              · cases h
            | ret =>
              simp only at h
              split at h
              · rename_i l hl; exact fin l (.inr rfl) hl h
              · cases h
            | _ => simp only at h; cases h
          · cases h
        · cases h
      · cases h
    · cases h

theorem alsoT_go {c : Nat} {r : CRT} {e : Exit} {t : ET} {s : St} {m : Nat} (h : r.also c = .go e t s m) : ∃ m', r = .go e t s m' ∧ m = min c m' := by
  cases r with
  | fail => cases h
  | go e' t' s' m' =>
    have : CRT.go e' t' s' (min c m') = .go e t s m := h
    cases this
    exact ⟨m', rfl, rfl⟩

theorem evCT_spec {cfg : Cfg} (hcfg : cfg.ok P) (hmix : P.follows .mixedOrders = true) (k : Nat) : SoundT P (evCT P cfg k) := by
  induction k using Nat.strongRecOn with
  | _ k ih =>
    cases k with
    | zero => intro M n c t env st e t' s cl hR h; cases h
    | succ k =>
      have ihn := ih k (Nat.lt_succ_self k)
      have hcall := runFT_spec hcfg ihn
      have hself : Knows (runFT P cfg (evCT P cfg k)) (runFT P cfg (evCT P cfg k)) := fun _ _ _ _ h => h
      intro M n c t env st e t' s cl hR h
      rw [evCT_succ] at h
      cases c with
      | skip => simp only [stepT] at h; cases h; exact ⟨env, awp_skip ⟨rfl, rfl, rfl⟩, Keeps.same _ _, hR⟩
      | region id ops draw =>
        simp only [stepT, mapR_eq] at h
        cases draw with
        | false =>
          simp only at h
          split at h
          · rename_i t1 s1 m1 ho
            cases h
            obtain ⟨e', h1, h2⟩ := opsT_spec hself _ _ _ _ _ _ _ hR ho
            obtain ⟨k1, k2⟩ := opsE_spec hcall (K := fun e s => Exit.normal = Exit.normal ∧ e = e' ∧ s = _) 0 ops.toList env st _ _ _ rfl h1 ⟨rfl, rfl, rfl⟩
            refine ⟨e', awp_region ?_, k2, h2⟩
            rw [List.range_eq_range']
            simpa using k1
          · cases h
        | true =>
          simp only at h
          split at h
          · rename_i hf
            split at h
            · rename_i t1 ho
              cases h
              obtain ⟨e', h1, h2⟩ := drawLT_spec hself _ _ _ _ hR ho
              exact ⟨e', awp_draw M hmix hf (drawL_spec hcall _ _ _ h1 ⟨rfl, rfl, rfl⟩), Keeps.same _ _, h2⟩
            · split at h
              · rename_i t1 s1 m1 ho
                cases h
                obtain ⟨e', h1, h2⟩ := drawTT_spec hself hR ho
                obtain ⟨k1, k2⟩ := drawT_spec hcall hmix (id := id) (Q := fun e1 env1 s1 => e1 = .normal ∧ env1 = e' ∧ s1 = _) hf h1 ⟨rfl, rfl, rfl⟩
                exact ⟨e', k1, k2, h2⟩
              · cases h
          · cases h
      | seq a b =>
        simp only [stepT] at h
        split at h
        · rename_i t1 s1 m1 ha
          obtain ⟨m2, hb, hcl⟩ := alsoT_go h
          obtain ⟨e1, k1, k2, r1⟩ := ihn _ _ _ _ _ _ _ _ _ _ hR ha
          obtain ⟨e2, k3, k4, r2⟩ := ihn _ _ _ _ _ _ _ _ _ _ r1 hb
          refine ⟨e2, awp_seq (k1.mono fun e env s ⟨q1, q2, q3⟩ => ?_), by rw [hcl]; exact k2.trans k4, r2⟩
          subst q1; subst q2; subst q3
          exact k3
        · rename_i hne
          obtain ⟨e1, k1, k2, r1⟩ := ihn _ _ _ _ _ _ _ _ _ _ hR h
          refine ⟨e1, awp_seq (k1.mono fun e1 env1 s1 ⟨q1, q2, q3⟩ => ?_), k2, r1⟩
          subst q1; subst q2; subst q3
          cases e1 with
          | normal => exact absurd h (hne _ _ _)
          | _ => exact ⟨rfl, rfl, rfl⟩
      | cond cc x y =>
        simp only [stepT, hR.ev] at h
        split at h
        · rename_i hc
          obtain ⟨e1, k1, k2, r1⟩ := ihn _ _ _ _ _ _ _ _ _ _ hR h
          exact ⟨e1, awp_cond hc (fun _ => k1) (fun h => by cases h), k2, r1⟩
        · rename_i hc
          obtain ⟨e1, k1, k2, r1⟩ := ihn _ _ _ _ _ _ _ _ _ _ hR h
          exact ⟨e1, awp_cond hc (fun h => by cases h) (fun _ => k1), k2, r1⟩
        · cases h
      | block id c =>
        simp only [stepT] at h
        split at h
        · rename_i id' t1 s1 m1 hc
          obtain ⟨e1, k1, k2, r1⟩ := ihn _ _ _ _ _ _ _ _ _ _ hR hc
          split at h
          · rename_i hid
            have hid := Nat.eq_of_beq_eq_true hid
            cases h
            refine ⟨e1, awp_block (k1.mono fun e env s ⟨q1, q2, q3⟩ => ?_), k2, r1⟩
            subst q1; subst q2; subst q3
            simp only [blockQ, hid, if_true]
            exact ⟨trivial, trivial, trivial⟩
          · rename_i hid
            cases h
            refine ⟨e1, awp_block (k1.mono fun e env s ⟨q1, q2, q3⟩ => ?_), k2, r1⟩
            subst q1; subst q2; subst q3
            have : ¬ id' = id := fun e => hid (by rw [e]; exact Nat.beq_refl id)
            simp only [blockQ, this, if_false]
            exact ⟨trivial, trivial, trivial⟩
        · rename_i hne
          obtain ⟨e1, k1, k2, r1⟩ := ihn _ _ _ _ _ _ _ _ _ _ hR h
          refine ⟨e1, awp_block (k1.mono fun e1 env1 s1 ⟨q1, q2, q3⟩ => ?_), k2, r1⟩
          subst q1; subst q2; subst q3
          cases e1 with
          | exit id' => exact absurd h (hne _ _ _ _)
          | _ => exact ⟨rfl, rfl, rfl⟩
      | loop c =>
        simp only [stepT] at h
        have hfull : evCT P cfg (k + 1) M n (.loop c) t st = .go e t' s cl := by rw [evCT_succ]; simp only [stepT]; exact h
        -- the loop, by how much there is to reckon with
        have key : ∀ m t env st cl, m ≤ k + 1 → Rl n t env → evCT P cfg m M n (.loop c) t st = .go e t' s cl → ∃ env', Rl n t' env' ∧ Keeps st s cl ∧
            ∃ I : Nat → List SV → St → Prop, I m env st ∧ ∀ q e1 s1, I q e1 s1 → AWp P c (thenQ (fun e2 s2 => ∃ q', q' < q ∧ I q' e2 s2) (fun e1 env1 s1 => e1 = e ∧ env1 = env' ∧ s1 = s)) e1 s1 := by
          intro m
          induction m with
          | zero => intro t env st cl _ _ h; cases h
          | succ m ihm =>
            intro t env st cl hm hR h
            have ihs := ih m (by omega)
            rw [evCT_succ] at h
            simp only [stepT] at h
            split at h
            · rename_i t1 s1 m1 hc
              obtain ⟨m2, hb, hcl⟩ := alsoT_go h
              obtain ⟨e1, k1, k2, r1⟩ := ihs _ _ _ _ _ _ _ _ _ _ hR hc
              obtain ⟨env', r2, k4, I, i1, i2⟩ := ihm _ _ _ _ (by omega) r1 hb
              refine ⟨env', r2, by rw [hcl]; exact k2.trans k4, fun q e0 s0 => (q = m + 1 ∧ e0 = env ∧ s0 = st) ∨ (q < m + 1 ∧ I q e0 s0), .inl ⟨rfl, rfl, rfl⟩, ?_⟩
              rintro q e0 s0 (⟨rfl, rfl, rfl⟩ | ⟨hq, hi⟩)
              · refine k1.mono fun e2 env2 s2 ⟨q1, q2, q3⟩ => ?_
                subst q1; subst q2; subst q3
                exact ⟨m, Nat.lt_succ_self m, .inr ⟨Nat.lt_succ_self m, i1⟩⟩
              · refine (i2 q e0 s0 hi).mono fun e2 env2 s2 hq2 => ?_
                cases e2 with
                | normal =>
                  obtain ⟨q', h1, h2⟩ := hq2
                  exact ⟨q', h1, .inr ⟨by omega, h2⟩⟩
                | _ => exact hq2
            · rename_i hne
              obtain ⟨e1, k1, k2, r1⟩ := ihs _ _ _ _ _ _ _ _ _ _ hR h
              refine ⟨e1, r1, k2, fun q e0 s0 => e0 = env ∧ s0 = st, ⟨rfl, rfl⟩, ?_⟩
              rintro q e0 s0 ⟨rfl, rfl⟩
              refine k1.mono fun e2 env2 s2 ⟨q1, q2, q3⟩ => ?_
              subst q1; subst q2; subst q3
              cases e2 with
              | normal => exact absurd h (hne _ _ _)
              | _ => exact ⟨rfl, rfl, rfl⟩
        obtain ⟨env', r1, k1, I, i1, i2⟩ := key (k + 1) t env st cl (Nat.le_refl _) hR hfull
        exact ⟨env', awp_loop I i1 i2, k1, r1⟩
      | exit id => simp only [stepT] at h; cases h; exact ⟨env, awp_exit ⟨rfl, rfl, rfl⟩, Keeps.same _ _, hR⟩
      | ret => simp only [stepT] at h; cases h; exact ⟨env, awp_ret ⟨rfl, rfl, rfl⟩, Keeps.same _ _, hR⟩
      | label l => simp only [stepT] at h; cases h; exact ⟨env, awp_label ⟨rfl, rfl, rfl⟩, Keeps.same _ _, hR⟩
      | _ => simp only [stepT] at h; cases h

noncomputable def runCT (P : Program) (cfg : Cfg) (n : Nat) (f : FuncId) (args : List SV) (st : St) : ER := runFT P cfg (evCT P cfg n) f args st

/-- Does a closed call come to a value, or to a stronger one, and leave nothing? -/
noncomputable def checkT (P : Program) (cfg : Cfg) (n : Nat) (f : FuncId) (args : List SV) (y : SV) : Bool :=
  bif idsRL 0 args then (match runCT P cfg n f args [] with
  | some (x, [], 0) => bif idsR 0 x then leB x y else false
  | _ => false) else false

theorem idsRL_all {n : Nat} : ∀ {l : List SV}, idsRL n l = true → ∀ a ∈ l, Ids n a
  | x :: r, h, a, ha => by
    have h' : (idsR n x && idsRL n r) = true := by rw [← bif_and]; exact h
    simp only [Bool.and_eq_true] at h'
    cases ha with
    | head => exact idsB_spec _ _ (by rw [← idsR_eq]; exact h'.1)
    | tail _ ha => exact idsRL_all h'.2 a ha

theorem acalls_checkT {cfg : Cfg} (hcfg : cfg.ok P) (hmix : P.follows .mixedOrders = true) (n : Nat) {f : FuncId} {args : List SV} {y : SV} {K : SV → St → Prop} {st : St}
    (h : checkT P cfg n f args y = true) (hk : K y st) : ACalls P f args K st := by
  unfold checkT at h
  cases ha : idsRL 0 args with
  | false => rw [ha] at h; cases h
  | true =>
    rw [ha] at h
    simp only [cond_true] at h
    split at h
    · rename_i x hx
      cases hi : idsR 0 x with
      | false => rw [hi] at h; cases h
      | true =>
        rw [hi] at h
        have hr := (runFT_spec hcfg (evCT_spec hcfg hmix n) f args [] x [] 0 hx).1
        exact acalls_le (acalls_frame hr (idsRL_all ha) (K' := fun x s => ∃ y, SVle x y ∧ K y s) fun x' s' ⟨e1, e2⟩ => by
          rw [e1]; exact ⟨idsB_spec _ _ (by rw [← idsR_eq]; exact hi), y, leB_spec _ _ h, hk⟩)
    · cases h

/-- A piece of code that needs no more than what its frame tells. -/
theorem awp_runT {cfg : Cfg} (hcfg : cfg.ok P) (hmix : P.follows .mixedOrders = true) (k : Nat) {M : List Nat} {n : Nat} {c : Code} {t : ET} {env : List SV} {st : St} {Q : Exit → List SV → St → Prop} (hR : Rl n t env) {e : Exit} {t' : ET} {s : St} {m : Nat}
    (h : evCT P cfg k M n c t st = .go e t' s m) (hq : ∀ env', Rl n t' env' → Q e env' s) : AWp P c Q env st := by
  obtain ⟨env', h1, _, h3⟩ := evCT_spec hcfg hmix k _ _ _ _ _ _ _ _ _ _ hR h
  exact h1.mono fun e1 env1 s1 ⟨q1, q2, q3⟩ => by rw [q1, q2, q3]; exact hq env' h3

end Go.AL
