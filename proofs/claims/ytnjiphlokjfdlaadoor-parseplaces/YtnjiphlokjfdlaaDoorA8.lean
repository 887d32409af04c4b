/- The abstract layer, part 32a: a call whose code is walked by hand (for claims that leave parts 28 to 37 out). -/
import Derived.Test.YtnjiphlokjfdlaaDoorA7
set_option linter.unusedVariables false
namespace Go.AL
variable {P : Program}
theorem acalls_goA {f : FuncId} {fn : Func} {c : Code} {rs : Array ResultVar} {n : Nat} {args : List SV} {K : SV → St → Prop} {st : St} (hf : P.funcs[f]? = some fn) (hb : fn.body = some c)
    (hr : fn.results = rs) (hn : fn.ntmps = n) (h : AWp P c (RetR P rs.toList K) (args ++ List.replicate (n - args.length) .any) st) : ACalls P f args K st := by
  subst hr; subst hn
  refine acalls_of hf hb (h.mono fun e env st hq => ?_)
  cases e <;> simp only [RetR] at hq <;> first | exact hq.elim | exact ⟨trivial, _, getD_of (d := []) hq.1, hq.2⟩
theorem args_one {st : St} {σ : Sig} {w : World} {x : SV} {vs : Array Value} (hR : RepArgs st σ w [x] vs) : ∃ v, vs = #[v] ∧ Rep st σ w x v := by
  refine ⟨vs.getD 0 undef, ?_, by simpa using hR.2 0 (by simp)⟩
  have := hR.1
  simp only [List.length_cons, List.length_nil] at this
  apply Array.ext
  · simpa using this
  · intro i h1 h2
    have : i = 0 := by simp at h2; omega
    subst this
    simp [Array.getD, h1]
end Go.AL
set_option linter.unusedVariables false
namespace Go.AL
variable {P : Program}
def isStore : Op → Bool
  | .store _ _ _ => true
  | _ => false
def drawU (P : Program) (M : List Nat) (ds : List (Option Tmp)) (R : St → Prop) (s0 : St) : List Nat → List Oper → List SV → St → (List SV → St → Prop) → Prop
  | [], [], env, st, K => K env st
  | 0 :: tg, o :: r, env, st, K => d1Spec P M ds o env s0 fun x => drawU P M ds R s0 tg r (putE env o.dst x) st K
  | 1 :: tg, o :: r, env, st, K => isStore o.op = true ∧ o.guard = none ∧ effSpec P M o (onlyAt (opTmps o.op.operands.toList) 0 env) st fun x s => R s ∧ drawU P M ds R s0 tg r (putE env o.dst x) s K
  | 2 :: tg, o :: r, env, st, K => d1Spec P M ds o env st fun x => (∀ s, R s → d1Spec P M ds o env s fun y => y = x) ∧ drawU P M ds R s0 tg r (putE env o.dst x) st K
  | 3 :: tg, o :: r, env, st, K => ∃ X s', effSpec P M o (onlyAt (opTmps o.op.operands.toList) 0 env) st (fun x s => x = X ∧ s = s') ∧ o.guard = none ∧ R s' ∧ drawU P M ds R s0 tg r (putE env o.dst X) s' K
  | _, _, _, _, _ => False
section
variable {M : List Nat} {ds : List (Option Tmp)} {R : St → Prop} {s0 st : St} {tg : List Nat} {o : Oper} {r : List Oper} {env : List SV} {K : List SV → St → Prop}
theorem drawU_n : drawU P M ds R s0 [] [] env st K = K env st := rfl
theorem drawU_0 : drawU P M ds R s0 (0 :: tg) (o :: r) env st K = d1Spec P M ds o env s0 fun x => drawU P M ds R s0 tg r (putE env o.dst x) st K := rfl
theorem drawU_1 : drawU P M ds R s0 (1 :: tg) (o :: r) env st K = (isStore o.op = true ∧ o.guard = none ∧ effSpec P M o (onlyAt (opTmps o.op.operands.toList) 0 env) st fun x s => R s ∧ drawU P M ds R s0 tg r (putE env o.dst x) s K) := rfl
theorem drawU_2 : drawU P M ds R s0 (2 :: tg) (o :: r) env st K = d1Spec P M ds o env st fun x => (∀ s, R s → d1Spec P M ds o env s fun y => y = x) ∧ drawU P M ds R s0 tg r (putE env o.dst x) st K := rfl
theorem drawU_3 : drawU P M ds R s0 (3 :: tg) (o :: r) env st K = ∃ X s', effSpec P M o (onlyAt (opTmps o.op.operands.toList) 0 env) st (fun x s => x = X ∧ s = s') ∧ o.guard = none ∧ R s' ∧ drawU P M ds R s0 tg r (putE env o.dst X) s' K := rfl
theorem isStore_s {t : TypeId} {a b : Operand} : isStore (.store t a b) = true := rfl
end
def ksOf : Nat → List Nat → List Nat
  | _, [] => []
  | n, t :: r => if t == 1 || t == 3 then n :: ksOf (n + 1) r else ksOf (n + 1) r
def elOf : Nat → List Nat → List Nat
  | _, [] => []
  | n, t :: r => if t == 0 then n :: elOf (n + 1) r else elOf (n + 1) r
def tagsOk (ks el : List Nat) : Nat → List Nat → Bool
  | _, [] => true
  | n, t :: r => (ks.contains n == (t == 1 || t == 3)) && (el.contains n == (t == 0)) && tagsOk ks el (n + 1) r
theorem store_ext {M : List Nat} {o : Oper} {env : List SV} {st : St} {K : SV → St → Prop} (hs : isStore o.op = true) (h : effSpec P M o env st K) : ∃ X s', effSpec P M o env st (fun x s => x = X ∧ s = s') ∧ K X s' := by
  unfold isStore at hs
  split at hs
  · rename_i t x y ho
    unfold effSpec at h ⊢
    rw [ho] at h ⊢
    simp only at h ⊢
    obtain ⟨h1, h2⟩ := h
    unfold storeSpec at h2 ⊢
    split at h2
    · rename_i e
      rw [e] at *
      obtain ⟨a, b, c, d, f, g⟩ := h2
      exact ⟨_, _, ⟨h1, a, b, c, d, f, rfl, rfl⟩, g⟩
    · rename_i e
      rw [e] at *
      obtain ⟨a, b, c, d, f, g⟩ := h2
      exact ⟨_, _, ⟨h1, a, b, c, d, f, rfl, rfl⟩, g⟩
    · exact h2.elim
  · cases hs
theorem chainT {M : List Nat} {ops : Array Oper} {ks el : List Nat} {R : St → Prop} {s0 : St} {K : List SV → St → Prop} : ∀ (n : Nat) (tg : List Nat) (l : List Oper) (env : List SV) (st : St), ops.toList.drop n = l → tagsOk ks el n tg = true → R st →
    drawU P M (ops.toList.map (·.dst)) R s0 tg l env st K →
    ∃ (F : Nat → List SV) (G : Nat → St) (X : Nat → SV), F n = env ∧ G n = st ∧ (∀ i, n ≤ i → R (G i)) ∧
      (∀ i o, n ≤ i → ops[i]? = some o → F (i + 1) = putE (F i) o.dst (X i) ∧
        (if ks.contains i then EffFact P ops (G i) (G (i + 1)) o (F i) (X i) else G (i + 1) = G i ∧ ∀ s, (if el.contains i then s = s0 else R s) → OpFact P ops s o (F i) (X i))) ∧
      K (F (n + l.length)) (G (n + l.length))
  | n, [], [], env, st, hl, ht, hr, h => by
    refine ⟨fun _ => env, fun _ => st, fun _ => .any, rfl, rfl, fun _ _ => hr, fun i o hi ho => ?_, h⟩
    have h1 := lt_of_some ho
    have h2 := congrArg List.length hl
    simp at h2
    omega
  | n, t :: tg, o :: r, env, st, hl, htg, hrs, h => by
    have ho : ops[n]? = some o := by
      have : (ops.toList.drop n)[0]? = some o := by rw [hl]; rfl
      rw [List.getElem?_drop, Nat.add_zero, Array.getElem?_toList] at this
      exact this
    have hr : ops.toList.drop (n + 1) = r := by rw [← List.drop_drop, hl]; rfl
    simp only [tagsOk, Bool.and_eq_true, beq_iff_eq] at htg
    obtain ⟨⟨t1, t2⟩, t3⟩ := htg
    have fin : ∀ (X0 : SV) (s' : St), R s' → drawU P M (ops.toList.map (·.dst)) R s0 tg r (putE env o.dst X0) s' K →
        (if ks.contains n then EffFact P ops st s' o env X0 else s' = st ∧ ∀ s, (if el.contains n then s = s0 else R s) → OpFact P ops s o env X0) →
        ∃ (F : Nat → List SV) (G : Nat → St) (X : Nat → SV), F n = env ∧ G n = st ∧ (∀ i, n ≤ i → R (G i)) ∧
          (∀ i o, n ≤ i → ops[i]? = some o → F (i + 1) = putE (F i) o.dst (X i) ∧
            (if ks.contains i then EffFact P ops (G i) (G (i + 1)) o (F i) (X i) else G (i + 1) = G i ∧ ∀ s, (if el.contains i then s = s0 else R s) → OpFact P ops s o (F i) (X i))) ∧
          K (F (n + (o :: r).length)) (G (n + (o :: r).length)) := by
      intro X0 s' hrs' hrest hfact
      obtain ⟨F, G, X, f1, f2, f3, f4, f5⟩ := chainT (n + 1) tg r _ _ hr t3 hrs' hrest
      refine ⟨fun i => if i = n then env else F i, fun i => if i = n then st else G i, fun i => if i = n then X0 else X i, by simp, by simp, fun i hi => ?_, fun i p hi hp => ?_, ?_⟩
      · by_cases e : i = n
        · simp only [if_pos e]; exact hrs
        · simp only [if_neg e]; exact f3 i (by omega)
      · by_cases e : i = n
        · subst e
          rw [ho] at hp; cases hp
          simp only [if_true, show ¬ i + 1 = i by omega, if_false]
          refine ⟨f1, ?_⟩
          rw [f2]
          exact hfact
        · simp only [if_neg e, show ¬ i + 1 = n by omega, if_false]
          exact f4 i p (by omega) hp
      · simp only [List.length_cons]
        rw [if_neg (by omega), if_neg (by omega), show n + (r.length + 1) = n + 1 + r.length by omega]
        exact f5
    have turn : ∀ (X0 : SV) (s' : St), ks.contains n = true → effSpec P M o (onlyAt (opTmps o.op.operands.toList) 0 env) st (fun x s => x = X0 ∧ s = s') → o.guard = none →
        (if ks.contains n then EffFact P ops st s' o env X0 else s' = st ∧ ∀ s, (if el.contains n then s = s0 else R s) → OpFact P ops s o env X0) := by
      intro X0 s' hk h1 h2
      rw [if_pos hk]
      intro σ w a env' hI hR hs hlen
      refine ⟨h2, fun _ _ _ => False, fun _ _ _ h => h, ?_⟩
      refine upon_mono ?_ (fun _ _ _ h => h) (aop_eff h1 σ w a hI (rep_only hR hs hlen))
      rintro a' w' ⟨v, x, s1, σ', rfl, ⟨rfl, rfl⟩, hI', hr', hX⟩
      exact ⟨v, σ', rfl, hI', hX, hr'⟩
    match t, t1, t2, h with
    | 0, t1, t2, h =>
      rw [drawU_0] at h
      obtain ⟨X0, h1, h2⟩ := fact_of h
      refine fin X0 st hrs h2 ?_
      have k1 : ks.contains n = false := t1
      have k2 : el.contains n = true := t2
      rw [k1, k2]
      simp only [Bool.false_eq_true, if_false, if_true]
      exact ⟨trivial, fun s e => by rw [e]; exact h1⟩
    | 1, t1, t2, h =>
      rw [drawU_1] at h
      obtain ⟨hs, hg, he⟩ := h
      obtain ⟨X0, s', h1, h2, h3⟩ := store_ext hs he
      exact fin X0 s' h2 h3 (turn X0 s' t1 h1 hg)
    | 2, t1, t2, h =>
      rw [drawU_2] at h
      obtain ⟨X0, h1, h2, h3⟩ := fact_of h
      refine fin X0 st hrs h3 ?_
      have k1 : ks.contains n = false := t1
      have k2 : el.contains n = false := t2
      rw [k1, k2]
      simp only [Bool.false_eq_true, if_false]
      refine ⟨trivial, fun s hs => ?_⟩
      obtain ⟨X1, g1, rfl⟩ := fact_of (h2 s hs)
      exact g1
    | 3, t1, t2, h =>
      rw [drawU_3] at h
      obtain ⟨X0, s', h1, h2, h3, h4⟩ := h
      exact fin X0 s' h3 h4 (turn X0 s' t1 h1 h2)
    | n + 4, _, _, h => exact h.elim
  | n, [], o :: r, env, st, hl, ht, hr, h => h.elim
  | n, 0 :: tg, [], env, st, hl, ht, hr, h => h.elim
  | n, 1 :: tg, [], env, st, hl, ht, hr, h => h.elim
  | n, 2 :: tg, [], env, st, hl, ht, hr, h => h.elim
  | n, 3 :: tg, [], env, st, hl, ht, hr, h => h.elim
  | n, (k + 4) :: tg, [], env, st, hl, ht, hr, h => h.elim
def tagsAll (ops : Array Oper) (tags : List Nat) : Bool :=
  flowOk ops && ordOk ops (ksOf 0 tags) && (ksOf 0 tags).all (· < ops.size) && (elOf 0 tags).all (early ops (ksOf 0 tags)) && tagsOk (ksOf 0 tags) (elOf 0 tags) 0 tags
theorem awp_drawT (M : List Nat) (tags : List Nat) (R : St → Prop) {id : Nat} {ops : Array Oper} {Q : Exit → List SV → St → Prop} {env : List SV} {st : St} (hm : P.follows .mixedOrders = true) (ht : tagsAll ops tags = true)
    (hR : R st) (h : drawU P M (ops.toList.map (·.dst)) R st tags ops.toList env st fun e s => Q .normal e s) : AWp P (.region id ops true) Q env st := by
  simp only [tagsAll, Bool.and_eq_true] at ht
  obtain ⟨⟨⟨⟨h1, h2⟩, h3⟩, h4⟩, h5⟩ := ht
  exact awp_chain _ _ R hm h1 h2 h3 h4 (chainT 0 tags ops.toList env st rfl h5 hR h)
end Go.AL
set_option linter.unusedVariables false
namespace Go.AL
variable {P : Program}
def midOk (ops : Array Oper) (k : Nat) : Bool := decide (k < ops.size) && (List.range ops.size).all fun i => decide (i = k) || (if i < k then ancB ops ops.size k i else ancB ops ops.size i k)
def drawN (P : Program) (M : List Nat) (ds : List (Option Tmp)) : Nat → List Oper → List SV → St → (List SV → St → Prop) → Prop
  | 0, o :: r, env, st, K => o.guard = none ∧ effSpec P M o (onlyAt (opTmps o.op.operands.toList) 0 env) st fun x s => drawSpec P M ds r (putE env o.dst x) s fun e => K e s
  | k + 1, o :: r, env, st, K => d1Spec P M ds o env st fun x => drawN P M ds k r (putE env o.dst x) st K
  | _, [], _, _, _ => False
theorem chainN {M : List Nat} {ops : Array Oper} {st : St} {K : List SV → St → Prop} {k : Nat} : ∀ (d n : Nat) (l : List Oper) (env : List SV), n + d = k → ops.toList.drop n = l → drawN P M (ops.toList.map (·.dst)) d l env st K →
    ∃ (F : Nat → List SV) (X : Nat → SV), F n = env ∧ (∀ i o, n ≤ i → i < k → ops[i]? = some o → OpFact P ops st o (F i) (X i) ∧ F (i + 1) = putE (F i) o.dst (X i)) ∧
      ∃ o, ops[k]? = some o ∧ o.guard = none ∧ effSpec P M o (onlyAt (opTmps o.op.operands.toList) 0 (F k)) st fun x s => drawSpec P M (ops.toList.map (·.dst)) (ops.toList.drop (k + 1)) (putE (F k) o.dst x) s fun e => K e s
  | 0, n, [], env, hk, hl, h => h.elim
  | d + 1, n, [], env, hk, hl, h => h.elim
  | 0, n, o :: r, env, hk, hl, h => by
    obtain rfl : n = k := by omega
    have ho : ops[n]? = some o := by
      have : (ops.toList.drop n)[0]? = some o := by rw [hl]; rfl
      rw [List.getElem?_drop, Nat.add_zero, Array.getElem?_toList] at this
      exact this
    have hr : ops.toList.drop (n + 1) = r := by rw [← List.drop_drop, hl]; rfl
    refine ⟨fun _ => env, fun _ => .any, rfl, fun i o h1 h2 => by omega, o, ho, h.1, ?_⟩
    rw [hr]
    exact h.2
  | d + 1, n, o :: r, env, hk, hl, h => by
    have ho : ops[n]? = some o := by
      have : (ops.toList.drop n)[0]? = some o := by rw [hl]; rfl
      rw [List.getElem?_drop, Nat.add_zero, Array.getElem?_toList] at this
      exact this
    have hr : ops.toList.drop (n + 1) = r := by rw [← List.drop_drop, hl]; rfl
    obtain ⟨x, h1, h2⟩ := fact_of h
    obtain ⟨F, X, f1, f2, q, f3, f4, f5⟩ := chainN (k := k) d (n + 1) r _ (by omega) hr h2
    refine ⟨fun i => if i = n then env else F i, fun i => if i = n then x else X i, by simp, fun i p hi hik hp => ?_, q, f3, f4, ?_⟩
    · by_cases e : i = n
      · subst e
        rw [ho] at hp; cases hp
        simp only [if_true, show ¬ i + 1 = i by omega, if_false]
        exact ⟨h1, f1⟩
      · simp only [if_neg e, show ¬ i + 1 = n by omega, if_false]
        exact f2 i p (by omega) hik hp
    · simp only [show ¬ k = n by omega, if_false]
      exact f5
theorem awp_drawN (M : List Nat) (k : Nat) {id : Nat} {ops : Array Oper} {Q : Exit → List SV → St → Prop} {env : List SV} {st : St} (hm : P.follows .mixedOrders = true) (hf : flowOk ops = true) (hmid : midOk ops k = true)
    (h : drawN P M (ops.toList.map (·.dst)) k ops.toList env st fun e s => Q .normal e s) : AWp P (.region id ops true) Q env st := by
  intro σ w a hI hR D hd
  obtain ⟨Fp, Xp, p1, p2, ok, p3, p4, p5⟩ := chainN (k := k) k 0 ops.toList env (by omega) rfl h
  unfold midOk at hmid
  simp only [Bool.and_eq_true, decide_eq_true_eq, List.all_eq_true, Bool.or_eq_true, List.mem_range] at hmid
  obtain ⟨hk, hmid⟩ := hmid
  have hpre : ∀ i, i < k → ancB ops ops.size k i = true := fun i hi => by
    have := hmid i (by omega)
    rw [if_pos hi] at this
    exact this.resolve_left (by omega)
  have hpost : ∀ i, k < i → i < ops.size → ancB ops ops.size i k = true := fun i hi hi2 => by
    have := hmid i hi2
    rw [if_neg (by omega)] at this
    exact this.resolve_left (by omega)
  have hflow : ∀ i j p q, ops[i]? = some p → ops[j]? = some q → i ≠ j → ∀ t, q.dst = some t → (t ∈ looks ops p → if j < i then dirEdge p j = true else dirEdge q i = true) ∧ p.dst ≠ some t := by
    intro i j p q hp hq hne t ht
    have h1 := lt_of_some hp
    have h2 := lt_of_some hq
    unfold flowOk at hf
    rw [List.all_eq_true] at hf
    have h3 := hf i (by simpa using h1)
    simp only [Bool.and_eq_true, List.all_eq_true] at h3
    have h4 := h3.1 j (by simpa using h2)
    unfold flowAt at h4
    rw [hp, hq] at h4
    simp only [ht, Bool.or_eq_true, beq_iff_eq, Bool.and_eq_true, Bool.not_eq_true', bne_iff_ne, ne_eq] at h4
    rcases h4 with h4 | ⟨h4, h5⟩
    · exact absurd h4 hne
    · refine ⟨fun hlk => ?_, h5⟩
      rcases h4 with h4 | h4
      · simp [hlk] at h4
      · split <;> rename_i hji <;> simpa [hji] using h4
  have hback : ∀ i p, ops[i]? = some p → ∀ e, e ∈ p.after.toList → Region.binds .any e = true → e.on < i := by
    intro i p hp e he hb
    have h1 := lt_of_some hp
    unfold flowOk at hf
    rw [List.all_eq_true] at hf
    have h3 := hf i (by simpa using h1)
    simp only [Bool.and_eq_true, hp, Option.map_some, Option.getD_some, List.all_eq_true] at h3
    have h4 := h3.2 e he
    simpa [hb] using h4
  have flen0 : ∀ (F : Nat → List SV) (X : Nat → SV), F 0 = env → (∀ i o, ops[i]? = some o → F (i + 1) = putE (F i) o.dst (X i)) → ∀ i, i ≤ ops.size → (F i).length = env.length := by
    intro F X f1 f2 i
    induction i with
    | zero => intro _; rw [f1]
    | succ i ih =>
      intro hi
      have hp : ops[i]? = some ops[i] := by simp [show i < ops.size by omega]
      rw [f2 i _ hp, length_putE, ih (by omega)]
  have fget0 : ∀ (F : Nat → List SV) (X : Nat → SV), F 0 = env → (∀ i o, ops[i]? = some o → F (i + 1) = putE (F i) o.dst (X i)) →
      ∀ i, i ≤ ops.size → ∀ t, t < env.length → (∀ j, j < i → writes ops j t = true → (F i).getD t .any = X j) ∧ ((∀ j, j < i → writes ops j t = false) → (F i).getD t .any = env.getD t .any) := by
    intro F X f1 f2 i
    have flen := flen0 F X f1 f2
    induction i with
    | zero => intro _ t ht; exact ⟨fun j hj => absurd hj (Nat.not_lt_zero _), fun _ => by rw [f1]⟩
    | succ i ih =>
      intro hi t ht
      obtain ⟨ih1, ih2⟩ := ih (by omega) t ht
      have hp : ops[i]? = some ops[i] := by simp [show i < ops.size by omega]
      have he := f2 i _ hp
      have hg : (F (i + 1)).getD t .any = if ops[i].dst = some t then X i else (F i).getD t .any := by rw [he]; exact putE_get (by rw [flen i (by omega)]; exact ht)
      have hwi : writes ops i t = true ↔ ops[i].dst = some t := by simp [writes, hp]
      refine ⟨fun j hj hw => ?_, fun hno => ?_⟩
      · rw [hg]
        by_cases c : ops[i].dst = some t
        · rw [if_pos c]
          by_cases e : j = i
          · rw [e]
          · have hjl : j < ops.size := by omega
            have hq : ops[j]? = some ops[j] := by simp [hjl]
            have hjd : ops[j].dst = some t := by simpa [writes, hq] using hw
            exact absurd c (hflow i j _ _ hp hq (by omega) t hjd).2
        · rw [if_neg c]
          have e : j ≠ i := by rintro rfl; exact c (hwi.1 hw)
          exact ih1 j (by omega) hw
      · rw [hg, if_neg (fun c => by have := hno i (by omega); rw [hwi.2 c] at this; cases this)]
        exact ih2 fun j hj => hno j (by omega)
  let Inv' : Array Bool → Act → World → Prop := fun listed a' w' => ∃ (s : St) (σ' : Sig) (F : Nat → List SV) (X : Nat → SV), F 0 = env ∧ (∀ i o, ops[i]? = some o → F (i + 1) = putE (F i) o.dst (X i)) ∧
    (∀ i o, ops[i]? = some o → listed.getD i false = false → i ≠ k → (i < k ∨ listed.getD k false = true) → OpFact P ops s o (F i) (X i)) ∧
    (listed.getD k false = true → Q .normal (F ops.size) s) ∧ (listed.getD k false = false → s = st ∧ F k = Fp k) ∧
    Inv s σ' w' ∧ Ext st σ w s σ' w' ∧ a'.defers = D ∧ listed.size = ops.size ∧
    RepEnv s σ' w' (mixE ops listed env (F ops.size)) a'.tmps ∧ ∀ i, listed.getD i false = true → ∀ p, ops[i]? = some p → ∀ e, e ∈ p.after.toList → Region.binds .any e = true → listed.getD e.on false = true
  have key : ∀ (fuel : Nat) (listed : Array Bool) (a' : Act) (w' : World), ((List.range ops.size).filter fun j => !listed.getD j false).length = fuel → Inv' listed a' w' →
      wpAny P .any ops (fun e a' w' => Post D (Q e) st σ w a' w') fuel listed a' w' := by
    intro fuel
    induction fuel with
    | zero =>
      intro listed a' w' hc hI'
      obtain ⟨s, σ', F, X, f1, f2, ff, fq, fs, i1, i2, i3, i4, i5, i6⟩ := hI'
      have flen := flen0 F X f1 f2
      have fget := fget0 F X f1 f2
      have hall : ∀ j, j < ops.size → listed.getD j false = true := by
        intro j hj
        have h0 : (List.range ops.size).filter (fun j => !listed.getD j false) = [] := List.eq_nil_of_length_eq_zero hc
        rw [List.filter_eq_nil_iff] at h0
        simpa using h0 j (by simpa using hj)
      refine ⟨?_, i3, mixE ops listed env (F ops.size), s, σ', ?_, i1, i5, i2⟩
      · unfold Region.ready
        rw [List.filter_eq_nil_iff]
        intro j hj
        have hj' : j < ops.size := by simpa using hj
        have h1 := hall j hj'
        have : listed.getD j true = true := by
          rw [Array.getD_eq_getD_getElem?] at h1 ⊢
          rw [Array.getElem?_eq_getElem (by omega)] at h1 ⊢
          exact h1
        simp [this]
      · have e : mixE ops listed env (F ops.size) = F ops.size := by
          apply List.ext_getElem?
          intro t
          by_cases ht : t < env.length
          · have h1 := getD_mixE (ops := ops) (listed := listed) (eN := F ops.size) ht
            have hl1 : t < (mixE ops listed env (F ops.size)).length := by rw [length_mixE]; exact ht
            have hl2 : t < (F ops.size).length := by rw [flen _ (Nat.le_refl _)]; exact ht
            rw [List.getElem?_eq_getElem hl1, List.getElem?_eq_getElem hl2]
            simp only [List.getD_eq_getElem?_getD, List.getElem?_eq_getElem hl1, List.getElem?_eq_getElem hl2, Option.getD_some] at h1
            rw [h1]
            split
            · rfl
            · rename_i hno
              have h2 := (fget ops.size (Nat.le_refl _) t ht).2 (fun j hj => by
                cases hw : writes ops j t with
                | false => rfl
                | true =>
                  exfalso
                  apply hno
                  unfold wr
                  rw [List.any_eq_true]
                  exact ⟨j, by simpa using hj, by rw [hall j hj, hw]; rfl⟩)
              simp only [List.getD_eq_getElem?_getD, List.getElem?_eq_getElem hl2, Option.getD_some] at h2
              rw [h2]
          · rw [List.getElem?_eq_none (by rw [length_mixE]; omega), List.getElem?_eq_none (by rw [flen _ (Nat.le_refl _)]; omega)]
        rw [e]
        exact fq (hall k hk)
    | succ fuel ih =>
      intro listed a' w' hc hI'
      obtain ⟨s, σ', F, X, f1, f2, ff, fq, fs, i1, i2, i3, i4, i5, i6⟩ := hI'
      have flen := flen0 F X f1 f2
      have fget := fget0 F X f1 f2
      have hready : ∀ i, i ∈ Region.ready .any ops listed ↔ i < ops.size ∧ listed.getD i true = false ∧ ∀ p, ops[i]? = some p → ∀ e, e ∈ p.after.toList → Region.binds .any e = true → listed.getD e.on false = true := by
        intro i
        unfold Region.ready
        rw [List.mem_filter]
        constructor
        · rintro ⟨h1, h2⟩
          have h1' : i < ops.size := by simpa using h1
          simp only [Bool.and_eq_true, Bool.not_eq_true'] at h2
          refine ⟨h1', h2.1, fun p hp e he hb => ?_⟩
          have h3 := h2.2
          rw [hp] at h3
          simp only [Option.map_some, Option.getD_some, Array.all_eq_true'] at h3
          have := h3 e (by simpa using he)
          simpa [hb] using this
        · rintro ⟨h1, h2, h3⟩
          refine ⟨by simpa using h1, ?_⟩
          have hp : ops[i]? = some ops[i] := by simp [h1]
          simp only [h2, hp, Option.map_some, Option.getD_some, Bool.not_false, Bool.true_and, Array.all_eq_true']
          intro e he
          cases hb : Region.binds .any e with
          | false => rfl
          | true => simpa using h3 _ hp e (by simpa using he) hb
      refine ⟨fun hnil => ?_, fun i hi => ?_⟩
      · -- the least one that is not listed is ready
        exfalso
        have hex : ∃ j, j < ops.size ∧ listed.getD j false = false := by
          have hne : (List.range ops.size).filter (fun j => !listed.getD j false) ≠ [] := by intro h0; rw [h0] at hc; cases hc
          obtain ⟨j, hj⟩ := List.exists_mem_of_ne_nil _ hne
          rw [List.mem_filter] at hj
          exact ⟨j, by simpa using hj.1, by simpa using hj.2⟩
        obtain ⟨j, hj1, hj2⟩ := hex
        have least : ∀ n, ∀ j, j ≤ n → j < ops.size → listed.getD j false = false → ∃ i, i < ops.size ∧ listed.getD i false = false ∧ ∀ k, k < i → listed.getD k false = true := by
          intro n
          induction n with
          | zero =>
            intro j hj h1 h2
            exact ⟨j, h1, h2, fun k hk => by omega⟩
          | succ n ihn =>
            intro j hj h1 h2
            by_cases c : ∃ k, k < j ∧ listed.getD k false = false
            · obtain ⟨k, hk1, hk2⟩ := c
              exact ihn k (by omega) (by omega) hk2
            · refine ⟨j, h1, h2, fun k hk => ?_⟩
              cases hv : listed.getD k false with
              | true => rfl
              | false => exact absurd ⟨k, hk, hv⟩ c
        obtain ⟨i, hi1, hi2, hi3⟩ := least j j (Nat.le_refl _) hj1 hj2
        have : i ∈ Region.ready .any ops listed := (hready i).2 ⟨hi1, by
          rw [Array.getD_eq_getD_getElem?] at hi2 ⊢
          rw [Array.getElem?_eq_getElem (by omega)] at hi2 ⊢
          exact hi2, fun p hp e he hb => hi3 _ (hback i p hp e he hb)⟩
        rw [hnil] at this
        cases this
      · obtain ⟨hi1, hi2, hi3⟩ := (hready i).1 hi
        have hp : ops[i]? = some ops[i] := by simp [hi1]
        have hnl : listed.getD i false = false := by
          rw [Array.getD_eq_getD_getElem?] at hi2 ⊢
          rw [Array.getElem?_eq_getElem (by omega)] at hi2 ⊢
          exact hi2
        have hagree : ∀ t ∈ looks ops ops[i], (mixE ops listed env (F ops.size)).getD t .any = (F i).getD t .any := by
          intro t ht
          by_cases hlt : t < env.length
          · rw [getD_mixE hlt]
            obtain ⟨g1, g2⟩ := fget i (by omega) t hlt
            obtain ⟨gN1, gN2⟩ := fget ops.size (Nat.le_refl _) t hlt
            by_cases c : ∃ j, j < i ∧ writes ops j t = true
            · obtain ⟨j, hj, hw⟩ := c
              have hjl : j < ops.size := by omega
              have hq : ops[j]? = some ops[j] := by simp [hjl]
              have hjd : ops[j].dst = some t := by simpa [writes, hq] using hw
              have hedge := (hflow i j _ _ hp hq (by omega) t hjd).1 ht
              rw [if_pos hj] at hedge
              have hlj : listed.getD j false = true := by
                unfold dirEdge at hedge
                rw [List.any_eq_true] at hedge
                obtain ⟨e, he1, he2⟩ := hedge
                simp only [Bool.and_eq_true, beq_iff_eq] at he2
                have := hi3 _ hp e he1 he2.1
                rwa [he2.2] at this
              rw [if_pos (by unfold wr; rw [List.any_eq_true]; exact ⟨j, by simpa using hjl, by rw [hlj, hw]; rfl⟩), g1 j hj hw, gN1 j hjl hw]
            · rw [g2 fun j hj => by
                cases hw : writes ops j t with
                | false => rfl
                | true => exact absurd ⟨j, hj, hw⟩ c]
              rw [if_neg]
              intro hwr
              unfold wr at hwr
              rw [List.any_eq_true] at hwr
              obtain ⟨j, hj1, hj2⟩ := hwr
              simp only [Bool.and_eq_true] at hj2
              have hjl : j < ops.size := by simpa using hj1
              have hq : ops[j]? = some ops[j] := by simp [hjl]
              have hjd : ops[j].dst = some t := by simpa [writes, hq] using hj2.2
              have hne : i ≠ j := by rintro rfl; rw [hj2.1] at hnl; cases hnl
              have hnji : ¬ j < i := fun hji => c ⟨j, hji, hj2.2⟩
              have hedge := (hflow i j _ _ hp hq hne t hjd).1 ht
              rw [if_neg hnji] at hedge
              unfold dirEdge at hedge
              rw [List.any_eq_true] at hedge
              obtain ⟨e, he1, he2⟩ := hedge
              simp only [Bool.and_eq_true, beq_iff_eq] at he2
              have := i6 j hj2.1 _ hq e he1 he2.1
              rw [he2.2, hnl] at this
              cases this
          · rw [List.getD_eq_getElem?_getD, List.getD_eq_getElem?_getD, List.getElem?_eq_none (by rw [length_mixE]; omega), List.getElem?_eq_none (by rw [flen i (by omega)]; omega)]
        have gl : ∀ k, (listed.setIfInBounds i true).getD k false = if k = i then true else listed.getD k false := by
          intro k
          rw [Array.getD_eq_getD_getElem?, Array.getD_eq_getD_getElem?]
          by_cases e : i = k
          · subst e; simp [show i < listed.size by omega]
          · rw [Array.getElem?_setIfInBounds_ne e, if_neg (fun h => e h.symm)]
        have hcl2 : ∀ k, (listed.setIfInBounds i true).getD k false = true → ∀ p, ops[k]? = some p → ∀ e, e ∈ p.after.toList → Region.binds .any e = true → (listed.setIfInBounds i true).getD e.on false = true := by
          intro k hk p hp' e he hb
          rw [gl] at hk ⊢
          split
          · rfl
          · by_cases ek : k = i
            · subst ek
              rw [hp] at hp'; cases hp'
              exact hi3 _ hp e he hb
            · rw [if_neg ek] at hk
              exact i6 k hk p hp' e he hb
        have hmix : ∀ (s2 : St) (σ2 : Sig) (w2 : World) (v : Value) (Y : SV) (F' : Nat → List SV), RepEnv s2 σ2 w2 (mixE ops listed env (F ops.size)) a'.tmps → Rep s2 σ2 w2 Y v →
            (∀ t, t < env.length → (ops[i].dst = some t → (F' ops.size).getD t .any = Y) ∧ (ops[i].dst ≠ some t → wr ops listed t = true → (F' ops.size).getD t .any = (F ops.size).getD t .any)) →
            RepEnv s2 σ2 w2 (mixE ops (listed.setIfInBounds i true) env (F' ops.size)) (a'.put ops[i].dst v).tmps := by
          intro s2 σ2 w2 v Y F' hRE hr2 hF
          refine ⟨?_, fun t ht => ?_⟩
          · rw [length_mixE]
            have := hRE.1
            rw [length_mixE] at this
            cases ops[i].dst with
            | none => exact this
            | some d => simpa [Act.put] using this
          · rw [length_mixE] at ht
            have hput := rep_put hRE ops[i].dst hr2
            have h1 := hput.2 t (by rw [length_putE, length_mixE]; exact ht)
            rw [putE_get (by rw [length_mixE]; exact ht)] at h1
            have e : (mixE ops (listed.setIfInBounds i true) env (F' ops.size)).getD t .any = if ops[i].dst = some t then Y else (mixE ops listed env (F ops.size)).getD t .any := by
              rw [getD_mixE ht, getD_mixE ht]
              by_cases c : ops[i].dst = some t
              · rw [if_pos c, if_pos]
                · exact (hF t ht).1 c
                · unfold wr
                  rw [List.any_eq_true]
                  exact ⟨i, by simpa using hi1, by rw [gl, if_pos rfl]; simp [writes, hp, c]⟩
              · rw [if_neg c]
                have e2 : wr ops (listed.setIfInBounds i true) t = wr ops listed t := by
                  unfold wr
                  apply Bool.eq_iff_iff.2
                  rw [List.any_eq_true, List.any_eq_true]
                  constructor
                  · rintro ⟨j, hj1, hj2⟩
                    simp only [Bool.and_eq_true] at hj2
                    refine ⟨j, hj1, ?_⟩
                    rw [gl] at hj2
                    by_cases ej : j = i
                    · subst ej; exact absurd (by simpa [writes, hp] using hj2.2) c
                    · rw [if_neg ej] at hj2; simp [hj2.1, hj2.2]
                  · rintro ⟨j, hj1, hj2⟩
                    simp only [Bool.and_eq_true] at hj2
                    refine ⟨j, hj1, ?_⟩
                    rw [gl]
                    split <;> simp [hj2.1, hj2.2]
                rw [e2]
                by_cases cw : wr ops listed t = true
                · rw [if_pos cw, if_pos cw, (hF t ht).2 c cw]
                · rw [if_neg cw, if_neg cw]
            rw [e]
            exact h1
        have hcount : ((List.range ops.size).filter fun j => !(listed.setIfInBounds i true).getD j false).length = fuel := by
          have h1 : ((List.range ops.size).filter fun j => !listed.getD j false) = (List.range ops.size).filter fun j => !listed.getD j false := rfl
          have hperm : ∀ l : List Nat, l.Nodup → i ∈ l → (l.filter fun j => !listed.getD j false).length = (l.filter fun j => !(listed.setIfInBounds i true).getD j false).length + 1 := by
            intro l
            have gl : ∀ k, (listed.setIfInBounds i true).getD k false = if k = i then true else listed.getD k false := by
              intro k
              rw [Array.getD_eq_getD_getElem?, Array.getD_eq_getD_getElem?]
              by_cases e : i = k
              · subst e; simp [show i < listed.size by omega]
              · rw [Array.getElem?_setIfInBounds_ne e, if_neg (fun h => e h.symm)]
            induction l with
            | nil => intro _ h; cases h
            | cons x r ihr =>
              intro hnd hmem
              rw [List.nodup_cons] at hnd
              by_cases e : x = i
              · subst e
                have hrest : (r.filter fun j => !listed.getD j false) = r.filter fun j => !(listed.setIfInBounds x true).getD j false := by
                  apply List.filter_congr
                  intro j hj
                  rw [gl, if_neg (by rintro rfl; exact hnd.1 hj)]
                rw [List.filter_cons, List.filter_cons, if_pos (by rw [hnl]; rfl), if_neg (by rw [gl, if_pos rfl]; decide), hrest]
                simp
              · have hm : i ∈ r := by
                  cases hmem with
                  | head => exact absurd rfl e
                  | tail _ h => exact h
                have := ihr hnd.2 hm
                simp only [List.filter_cons, gl x, if_neg e]
                split <;> simp only [List.length_cons, this]
          have := hperm _ List.nodup_range (by simpa using hi1)
          omega
        unfold wpOp
        rw [hp]
        simp only
        by_cases hik : i = k
        · -- the one in the midst
          subst hik
          obtain rfl : ok = ops[i] := by rw [hp] at p3; cases p3; rfl
          obtain ⟨rfl, hFk⟩ := fs hnl
          have hlow : ∀ j, j < i → listed.getD j false = true := fun j hj => anc_listed i6 _ i j hi3 (hpre j hj)
          have hhigh : ∀ j, i < j → j < ops.size → listed.getD j false = false := fun j hj hj2 => by
            cases hv : listed.getD j false with
            | false => rfl
            | true =>
              have := anc_listed i6 _ j i (i6 j hv) (hpost j hj hj2)
              rw [hnl] at this; cases this
          have hwt : Region.wanted ops[i] (yielded ops a'.tmps) = true := by simp [Region.wanted, p4]
          simp only [hwt, if_true]
          have hlook := rep_only (E := F i) i5 hagree (by rw [length_mixE, flen i (by omega)])
          rw [hFk] at hlook
          refine .inl (upon_mono ?_ (fun _ _ _ h => h.elim) (aop_eff p5 σ' w' a' i1 hlook))
          rintro a2 w2 ⟨v, x, s1, σ2, rfl, hx, hI2, hr2, hX2⟩
          obtain ⟨F2, X2, g1, g2, g3⟩ := chain_of (i + 1) _ _ rfl hx
          have hsz : i + 1 + (List.drop (i + 1) ops.toList).length = ops.size := by rw [List.length_drop]; simp; omega
          rw [hsz] at g3
          refine ih _ _ _ hcount ⟨s1, σ2, fun j => if j ≤ i then F j else F2 j, fun j => if j < i then X j else if j = i then x else X2 j, by simp [f1], fun j o ho => ?_, fun j o ho hnl2 hne _ => ?_, fun _ => ?_, fun hc2 => ?_, hI2, i2.trans hX2, by rw [put_defers]; exact i3, by simpa using i4, ?_, hcl2⟩
          · by_cases c1 : j < i
            · simp only [if_pos c1, if_pos (show j ≤ i by omega), if_pos (show j + 1 ≤ i by omega)]
              exact f2 j o ho
            · by_cases c2 : j = i
              · subst c2
                simp only [if_neg c1, if_true, if_pos (Nat.le_refl j), if_neg (show ¬ j + 1 ≤ j by omega)]
                rw [hp] at ho; cases ho
                rw [g1, hFk]
              · simp only [if_neg c1, if_neg c2, if_neg (show ¬ j ≤ i by omega), if_neg (show ¬ j + 1 ≤ i by omega)]
                exact (g2 j o (by omega) ho).2
          · have hj : i < j := by
              rcases Nat.lt_or_ge i j with q | q
              · exact q
              · rw [gl, if_neg hne, hlow j (by omega)] at hnl2; cases hnl2
            simp only [if_neg (show ¬ j < i by omega), if_neg (show ¬ j = i by omega), if_neg (show ¬ j ≤ i by omega)]
            exact (g2 j o (by omega) ho).1
          · simp only [if_neg (show ¬ ops.size ≤ i by omega)]
            exact g3
          · rw [gl, if_pos rfl] at hc2; cases hc2
          · refine hmix s1 σ2 w2 v x (fun j => if j ≤ i then F j else F2 j) (i5.ext hX2) hr2 fun t ht => ?_
            have hch : ∀ j o, ops[j]? = some o → (fun j => if j ≤ i then F j else F2 j) (j + 1) = putE ((fun j => if j ≤ i then F j else F2 j) j) o.dst ((fun j => if j < i then X j else if j = i then x else X2 j) j) := fun j o ho => by
              by_cases c1 : j < i
              · simp only [if_pos c1, if_pos (show j ≤ i by omega), if_pos (show j + 1 ≤ i by omega)]
                exact f2 j o ho
              · by_cases c2 : j = i
                · subst c2
                  simp only [if_neg c1, if_true, if_pos (Nat.le_refl j), if_neg (show ¬ j + 1 ≤ j by omega)]
                  rw [hp] at ho; cases ho
                  rw [g1, hFk]
                · simp only [if_neg c1, if_neg c2, if_neg (show ¬ j ≤ i by omega), if_neg (show ¬ j + 1 ≤ i by omega)]
                  exact (g2 j o (by omega) ho).2
            obtain ⟨n1, _⟩ := fget0 (fun j => if j ≤ i then F j else F2 j) (fun j => if j < i then X j else if j = i then x else X2 j) (by simp [f1]) hch ops.size (Nat.le_refl _) t ht
            obtain ⟨o1, _⟩ := fget ops.size (Nat.le_refl _) t ht
            refine ⟨fun c => ?_, fun c hw => ?_⟩
            · have := n1 i hi1 (by simp [writes, hp, c])
              simp only [Nat.lt_irrefl, if_false, if_true] at this
              exact this
            · unfold wr at hw
              rw [List.any_eq_true] at hw
              obtain ⟨j, hj1, hj2⟩ := hw
              simp only [Bool.and_eq_true] at hj2
              have hjl : j < ops.size := by simpa using hj1
              have hji : j < i := by
                rcases Nat.lt_trichotomy j i with q | q | q
                · exact q
                · subst q; exact absurd (by simpa [writes, hp] using hj2.2) c
                · rw [hhigh j q hjl] at hj2; cases hj2.1
              have e1 := n1 j hjl hj2.2
              simp only [if_pos hji] at e1
              rw [e1, o1 j hjl hj2.2]
        · -- another one
          have hside : i < k ∨ listed.getD k false = true := by
            rcases Nat.lt_trichotomy i k with q | q | q
            · exact .inl q
            · exact absurd q hik
            · exact .inr (anc_listed i6 _ i k hi3 (hpost i q hi1))
          obtain ⟨hrun, hskip⟩ := ff i _ hp hnl hik hside σ' w' a' _ i1 i5 hagree (by rw [length_mixE, flen i (by omega)])
          have hdone : ∀ (v : Value) (σ2 : Sig) (w2 : World), Inv s σ2 w2 → Ext s σ' w' s σ2 w2 → Rep s σ2 w2 (X i) v → Inv' (listed.setIfInBounds i true) (a'.put ops[i].dst v) w2 := by
            intro v σ2 w2 hI2 hX2 hr2
            have glk : (listed.setIfInBounds i true).getD k false = listed.getD k false := by rw [gl, if_neg (fun q => hik q.symm)]
            refine ⟨s, σ2, F, X, f1, f2, fun j o ho hnl2 hne hor => ?_, fun q => fq (by rw [← glk]; exact q), fun q => fs (by rw [← glk]; exact q), hI2, i2.trans hX2, by rw [put_defers]; exact i3, by simpa using i4, ?_, hcl2⟩
            · rw [gl] at hnl2
              by_cases e : j = i
              · rw [if_pos e] at hnl2; cases hnl2
              · rw [if_neg e] at hnl2
                exact ff j o ho hnl2 hne (by rw [← glk]; exact hor)
            · refine hmix s σ2 w2 v (X i) F (i5.ext hX2) hr2 fun t ht => ⟨fun c => ?_, fun _ _ => rfl⟩
              exact (fget ops.size (Nat.le_refl _) t ht).1 i hi1 (by simp [writes, hp, c])
          cases hwt : Region.wanted ops[i] (yielded ops a'.tmps) with
          | true =>
            simp only [if_true]
            obtain ⟨Q0, hq0, hwp⟩ := hrun hwt
            refine .inl (upon_mono ?_ (fun e a w h => absurd h (hq0 e a w)) hwp)
            rintro a2 w2 ⟨v, σ2, rfl, hI2, hX2, hr2⟩
            exact ih _ _ _ hcount (hdone v σ2 w2 hI2 hX2 hr2)
          | false =>
            simp only [Bool.false_eq_true, if_false]
            exact ih _ _ _ hcount (hdone undef σ' w' i1 (Ext.refl _ _ _) (hskip hwt))
  have hd0 : Ext st σ w st σ { w with drawn := w.drawn + 1 } := Ext.drew _
  obtain ⟨F0, hF0⟩ : ∃ F0 : Nat → List SV, F0 = fun i => Nat.rec (motive := fun _ => List SV) env (fun j e => putE e ((ops[j]?).bind (·.dst)) (Xp j)) i := ⟨_, rfl⟩
  have z1 : F0 0 = env := by rw [hF0]; rfl
  have z2 : ∀ i o, ops[i]? = some o → F0 (i + 1) = putE (F0 i) o.dst (Xp i) := fun i o ho => by
    rw [hF0]
    show putE _ ((ops[i]?).bind (·.dst)) (Xp i) = _
    rw [ho]; rfl
  have z3 : ∀ i, i ≤ k → F0 i = Fp i := by
    intro i
    induction i with
    | zero => intro _; rw [z1, p1]
    | succ i ih =>
      intro hi
      have hp : ops[i]? = some ops[i] := by simp [show i < ops.size by omega]
      rw [z2 i _ hp, (p2 i _ (Nat.zero_le _) (by omega) hp).2, ih (by omega)]
  have lf : ∀ i, (Array.replicate ops.size false).getD i false = false := fun i => by simp [Array.getD]
  refine wp_region_any hm (key ops.size _ a _ ?_ ⟨st, σ, F0, Xp, z1, z2, fun i o ho _ hne hor => ?_, fun hc => ?_, fun _ => ⟨rfl, z3 k (Nat.le_refl _)⟩, hI.drew _, hd0, hd, by simp, ?_, fun i hi => ?_⟩)
  · have : ((List.range ops.size).filter fun j => !(Array.replicate ops.size false).getD j false) = List.range ops.size := by
      apply List.filter_eq_self.2
      intro j hj
      rw [lf]; rfl
    rw [this]; simp
  · have hik : i < k := hor.resolve_right (by rw [lf]; decide)
    rw [z3 i (by omega)]
    exact (p2 i o (Nat.zero_le _) hik ho).1
  · rw [lf] at hc; cases hc
  · have e : mixE ops (Array.replicate ops.size false) env (F0 ops.size) = env := by
      apply List.ext_getElem?
      intro t
      by_cases ht : t < env.length
      · have hw : wr ops (Array.replicate ops.size false) t = false := by
          unfold wr
          rw [List.any_eq_false]
          intro j hj
          rw [lf]; simp
        simp [mixE, hw, ht]
      · rw [List.getElem?_eq_none (by rw [length_mixE]; omega), List.getElem?_eq_none (by omega)]
    rw [e]
    exact hR.ext hd0
  · rw [lf] at hi; cases hi
section
variable {M : List Nat} {ds : List (Option Tmp)} {st : St} {o : Oper} {r : List Oper} {env : List SV}
theorem drawN_0 {K : List SV → St → Prop} : drawN P M ds 0 (o :: r) env st K = (o.guard = none ∧ effSpec P M o (onlyAt (opTmps o.op.operands.toList) 0 env) st fun x s => drawSpec P M ds r (putE env o.dst x) s fun e => K e s) := rfl
theorem drawN_s {k : Nat} {K : List SV → St → Prop} : drawN P M ds (k + 1) (o :: r) env st K = d1Spec P M ds o env st fun x => drawN P M ds k r (putE env o.dst x) st K := rfl
theorem drawN_congr {k : Nat} {l l' : List Oper} {env' : List SV} {st' : St} {K : List SV → St → Prop} (h2 : l = l') (h3 : env = env') (h4 : st = st') : drawN P M ds k l env st K = drawN P M ds k l' env' st' K := by rw [h2, h3, h4]
theorem drawU_congr {R : St → Prop} {s0 s0' : St} {tg : List Nat} {l l' : List Oper} {env' : List SV} {st' : St} {K : List SV → St → Prop} (h2 : l = l') (h3 : env = env') (h4 : st = st') (h5 : s0 = s0') : drawU P M ds R s0 tg l env st K = drawU P M ds R s0' tg l' env' st' K := by rw [h2, h3, h4, h5]
attribute [congr] drawN_congr drawU_congr
attribute [go_sem] drawN_0 drawN_s
end
end Go.AL
