/- What making types one keeps: plain laws for the statements. -/
import Derived.Test.YteclbnjpijakbaaDoorM2
import Derived.Test.YteclbnjpijakbaaDoorM3
set_option linter.unusedSimpArgs false
set_option linter.unusedVariables false
namespace Go.Proofs
open Go Go.AL

theorem grow {θ : Int → Ty} : ∀ (k : Nat) (t : Ty), nd t ≤ k → gd t = true → nd t ≤ nd (sb θ t) ∧ dp t ≤ dp (sb θ t) := by
  intro k
  induction k with
  | zero => intro t hk; have := nd_pos t; omega
  | succ k ih =>
    intro t hk hg
    by_cases hv : t.v = 0
    · have key : ∀ l : List Ty, (∀ a ∈ l, nd a ≤ k) → (∀ a ∈ l, gd a = true) → ndL l ≤ ndL (l.map (sb θ)) ∧ dpL l ≤ dpL (l.map (sb θ)) := by
        intro l
        induction l with
        | nil => intro _ _; exact ⟨Nat.le_refl _, Nat.le_refl _⟩
        | cons a r ihl =>
          intro h1 h2
          have p := ih a (h1 a (by simp)) (h2 a (by simp))
          have q := ihl (fun b hb => h1 b (by simp [hb])) (fun b hb => h2 b (by simp [hb]))
          simp only [List.map_cons, ndL, dpL]
          omega
      have := key t.args (fun a ha => by have := nd_eq t; have := nd_mem ha; omega) (gd_con hg hv)
      rw [sb_con hv, nd_eq t, dp_eq t, nd_eq (.mk _ _ _), dp_eq (.mk _ _ _)]
      simp only [Ty.args]
      simp only [Ty.args] at this
      omega
    · have ht := gd_var hg hv
      have e1 : nd t = 1 := by rw [ht]; rfl
      have e2 : dp t = 1 := by rw [ht]; rfl
      have := nd_pos (θ t.v)
      have := dp_pos (θ t.v)
      rw [sb_var hv]
      omega
theorem grow_fit {θ : Int → Ty} {t : Ty} (hg : gd t = true) (h : fitB (sb θ t) = true) : fitB t = true := by
  have := grow (θ := θ) _ t (Nat.le_refl _) hg
  unfold fitB at h ⊢
  simp only [Bool.and_eq_true, decide_eq_true_eq] at h ⊢
  omega

/-- A state that is good. -/
structure BG (vs : Int) (B : Bd) : Prop where
  ends : EndB B
  gp : Gp vs B

theorem may_fit {vs : Int} {B : Bd} (h : BG vs B) {t : Ty} (hg : goodB (ownP vs) t = true) (hf : fitB (AP B t) = true) : mayB (ownP vs) t = true := by
  have h1 := th_ap h.ends h.gp.gb (good_gd hg)
  rw [← h1] at hf
  have := grow_fit (good_gd hg) hf
  unfold fitB at this
  unfold mayB
  rw [hg, Bool.true_and, Bool.and_comm]
  exact this
theorem may_good {p : Int → Bool} {t : Ty} (h : mayB p t = true) : goodB p t = true := by
  unfold mayB at h
  rw [Bool.and_eq_true] at h
  exact h.1
theorem may_fitB {p : Int → Bool} {t : Ty} (h : mayB p t = true) : fitB t = true := by
  unfold mayB at h
  rw [Bool.and_eq_true, Bool.and_comm (decide _)] at h
  exact h.2
theorem ApT_good {vs : Int} {B : Bd} (h : BG vs B) {t : Ty} (hg : goodB (ownP vs) t = true) : ApT vs B t = if fitB (AP B t) = true then AP B t else default := by
  unfold ApT
  cases hf : fitB (AP B t) with
  | false => simp
  | true =>
    have := may_fit h hg hf
    unfold ownP at this
    rw [this]
    simp

theorem AP_gp {vs : Int} {B : Bd} (h : BG vs B) {t : Ty} (hg : goodB (ownP vs) t = true) : goodB (ownP vs) (AP B t) = true := by
  obtain ⟨n, hn⟩ := h.ends.all (good_gd hg)
  induction n generalizing t with
  | zero => exact hn.elim
  | succ n ih =>
    have hgd := good_gd hg
    by_cases hv : t.v = 0
    · rw [en_con hv] at hn
      rw [AP_con h.ends hgd hv]
      have hl : ∀ l : List Ty, (∀ a ∈ l, goodB (ownP vs) (AP B a) = true) → goodL (ownP vs) (l.map (AP B)) = true := by
        intro l
        induction l with
        | nil => intro _; rfl
        | cons a r ihl =>
          intro hl
          rw [List.map_cons, goodL, Bool.and_eq_true]
          exact ⟨hl a (by simp), ihl fun b hb => hl b (by simp [hb])⟩
      have h1 := hl t.args fun a ha => ih (gp_args hg hv a ha) (hn a ha)
      rw [goodB_eq, if_pos hv, Bool.and_eq_true] at hg
      rw [goodB_eq]
      show (if (0 : Int) = 0 then _ else _) = true
      rw [if_pos rfl, Bool.and_eq_true]
      exact ⟨hg.1, h1⟩
    · cases hb : B t.v with
      | none => rw [AP_free hgd hv hb]; exact hg
      | some b =>
        rw [en_bound hv hb] at hn
        rw [AP_bound h.ends hv hb (h.gp.gb _ _ hb)]
        exact ih (h.gp _ _ hb) hn
theorem AP_idem {B : Bd} (h : EndB B) (hG : Gb B) {t : Ty} (hg : gd t = true) : AP B (AP B t) = AP B t := by
  have h1 := AP_gd h hG hg
  rw [← th_ap h hG h1, sol_ap (th_sol h hG) h hG hg, th_ap h hG hg]

def noP : Pr := fun _ _ => false
/-- May a type be made one with others? -/
noncomputable def okT (vs : Int) (B : Bd) (t : Ty) : Bool := mayB (ownP vs) t && fitB (AP B t)

/-- Unify: what it tells, and how the state is behind it. -/
structure UnR (vs : Int) (B : Bd) (a b : Ty) (e : Int) (B' : Bd) : Prop where
  arg : (okT vs B a && okT vs B b) = false → e = 1 ∧ B' = B
  run : (okT vs B a && okT vs B b) = true → ∃ e1 B1 P1, UniL B noP [a] [b] e1 B1 P1 ∧ ((e1 = 0 ∧ fitB (AP B1 a) = true ∧ e = 0 ∧ B' = B1) ∨ (e1 = 0 ∧ fitB (AP B1 a) = false ∧ e = 1 ∧ B' = B) ∨ (e1 ≠ 0 ∧ e = e1 ∧ B' = B))

theorem un_det {vs : Int} {B B1 B2 : Bd} {a b : Ty} {e1 e2 : Int} (h1 : UnR vs B a b e1 B1) (h2 : UnR vs B a b e2 B2) : e1 = e2 ∧ B1 = B2 := by
  cases hc : (okT vs B a && okT vs B b) with
  | false =>
    obtain ⟨rfl, rfl⟩ := h1.arg hc
    obtain ⟨rfl, rfl⟩ := h2.arg hc
    exact ⟨rfl, rfl⟩
  | true =>
    obtain ⟨x1, y1, z1, u1, v1⟩ := h1.run hc
    obtain ⟨x2, y2, z2, u2, v2⟩ := h2.run hc
    obtain ⟨rfl, rfl, rfl⟩ := uni_det u1 u2
    rcases v1 with ⟨p1, p2, rfl, rfl⟩ | ⟨p1, p2, rfl, rfl⟩ | ⟨p1, rfl, rfl⟩ <;> rcases v2 with ⟨q1, q2, rfl, rfl⟩ | ⟨q1, q2, rfl, rfl⟩ | ⟨q1, rfl, rfl⟩ <;> first | exact ⟨rfl, rfl⟩ | simp_all
theorem un_bad {vs : Int} {B B' : Bd} {a b : Ty} {e : Int} (h : UnR vs B a b e B') (he : e ≠ 0) : B' = B := by
  cases hc : (okT vs B a && okT vs B b) with
  | false => exact (h.arg hc).2
  | true =>
    obtain ⟨x1, y1, z1, u1, v1⟩ := h.run hc
    rcases v1 with ⟨p1, p2, rfl, rfl⟩ | ⟨p1, p2, rfl, rfl⟩ | ⟨p1, rfl, rfl⟩
    · exact absurd rfl he
    · rfl
    · rfl

theorem memo0 (B : Bd) (xs : List Ty) : MemoI B noP xs := fun x y h => by cases h
theorem ok_good {vs : Int} {B : Bd} {t : Ty} (h : okT vs B t = true) : goodB (ownP vs) t = true ∧ fitB (AP B t) = true := by
  unfold okT at h
  rw [Bool.and_eq_true] at h
  exact ⟨may_good h.1, h.2⟩
theorem uni1 {vs : Int} {B B1 : Bd} {a b : Ty} {e1 : Int} {P1 : Pr} (hB : BG vs B) (ha : gd a = true) (hb : gd b = true) (h : UniL B noP [a] [b] e1 B1 P1) : UniS B noP [a] [b] e1 B1 P1 :=
  uni_spec h hB.ends hB.gp.gb (fun x hx => by rw [List.mem_singleton.1 hx]; exact ha) (fun x hx => by rw [List.mem_singleton.1 hx]; exact hb) (memo0 _ _)

/-- Behind OK. -/
structure UnOk (vs : Int) (B : Bd) (a b : Ty) (B' : Bd) : Prop where
  ga : goodB (ownP vs) a = true
  gb : goodB (ownP vs) b = true
  eq : AP B' a = AP B' b
  fit : fitB (AP B' a) = true
  ext : BExt B B'
  sol : ∀ θ, Sol θ B → sb θ a = sb θ b → Sol θ B'
theorem un_ok {vs : Int} {B B' : Bd} {a b : Ty} (hB : BG vs B) (h : UnR vs B a b 0 B') : UnOk vs B a b B' := by
  cases hc : (okT vs B a && okT vs B b) with
  | false => exact absurd (h.arg hc).1 (by decide)
  | true =>
    obtain ⟨x1, y1, z1, u1, v1⟩ := h.run hc
    rw [Bool.and_eq_true] at hc
    have ga := ok_good hc.1
    have gb := ok_good hc.2
    rcases v1 with ⟨rfl, p2, _, rfl⟩ | ⟨p1, p2, q, rfl⟩ | ⟨p1, q, rfl⟩
    · have hs := uni1 hB (good_gd ga.1) (good_gd gb.1) u1
      obtain ⟨w1, w2, w3⟩ := hs.ok rfl
      simp only [List.map_cons, List.map_nil, List.cons.injEq, and_true] at w1 w2
      exact ⟨ga.1, gb.1, w1, p2, hs.ext, w2⟩
    · exact absurd q (by decide)
    · exact absurd q.symm p1
/-- What can be made one is, or is too great. -/
theorem un_can {vs : Int} {B B' : Bd} {a b : Ty} {e : Int} (hB : BG vs B) (h : UnR vs B a b e B') {θ : Int → Ty} (hs : Sol θ B) (hq : sb θ a = sb θ b) : e = 0 ∨ e = 1 := by
  cases hc : (okT vs B a && okT vs B b) with
  | false => exact .inr (h.arg hc).1
  | true =>
    obtain ⟨x1, y1, z1, u1, v1⟩ := h.run hc
    rw [Bool.and_eq_true] at hc
    have ga := ok_good hc.1
    have gb := ok_good hc.2
    rcases v1 with ⟨rfl, p2, q, _⟩ | ⟨p1, p2, q, _⟩ | ⟨p1, q, _⟩
    · exact .inl q
    · exact .inr q
    · have hs' := uni1 hB (good_gd ga.1) (good_gd gb.1) u1
      exact absurd (by simp [hq]) (hs'.bad p1 θ hs)

/-! TypesOne. -/
def pT (a b : Ty) : Ty := .mk 0 ⟨#[112]⟩ [a, b]
theorem ne_p : (ByteArray.toList ⟨#[112]⟩ == ByteArray.toList ⟨#[]⟩) = false := by decide +kernel
theorem good_p {p : Int → Bool} {a b : Ty} (ha : goodB p a = true) (hb : goodB p b = true) : goodB p (pT a b) = true := by
  rw [goodB_eq]
  simp [pT, Ty.v, Ty.name, Ty.args, ne_p, goodL, ha, hb]
theorem AP_p {vs : Int} {B : Bd} (h : BG vs B) {a b : Ty} (ha : goodB (ownP vs) a = true) (hb : goodB (ownP vs) b = true) : AP B (pT a b) = pT (AP B a) (AP B b) := by
  rw [AP_con h.ends (good_gd (good_p ha hb)) rfl]; rfl
theorem one_law {vs : Int} {B B' : Bd} {a b : Ty} (hB : BG vs B) (hB' : BG vs B') (h : UnR vs B a b 0 B') : ApT vs B' (pT a a) = ApT vs B' (pT a b) ∧ ApT vs B' (pT a b) = ApT vs B' (pT b a) := by
  have k := un_ok hB h
  rw [ApT_good hB' (good_p k.ga k.ga), ApT_good hB' (good_p k.ga k.gb), ApT_good hB' (good_p k.gb k.ga), AP_p hB' k.ga k.ga, AP_p hB' k.ga k.gb, AP_p hB' k.gb k.ga, k.eq]
  exact ⟨rfl, rfl⟩
theorem one_again {vs : Int} {B B' B2 : Bd} {a b : Ty} {e : Int} (hB : BG vs B) (hB' : BG vs B') (h : UnR vs B a b 0 B') (h2 : UnR vs B' b a e B2) : e = 0 := by
  have k := un_ok hB h
  have hs := th_sol hB'.ends hB'.gp.gb
  have ea := th_ap hB'.ends hB'.gp.gb (good_gd k.ga)
  have eb := th_ap hB'.ends hB'.gp.gb (good_gd k.gb)
  have hfb : fitB (AP B' b) = true := by rw [← k.eq]; exact k.fit
  have oka : okT vs B' a = true := by unfold okT; rw [may_fit hB' k.ga k.fit, k.fit]; rfl
  have okb : okT vs B' b = true := by unfold okT; rw [may_fit hB' k.gb hfb, hfb]; rfl
  obtain ⟨x1, y1, z1, u1, v1⟩ := h2.run (by rw [oka, okb]; rfl)
  have hu := uni1 hB' (good_gd k.gb) (good_gd k.ga) u1
  have hq : sb (thB B') b = sb (thB B') a := by rw [ea, eb, k.eq]
  rcases v1 with ⟨_, p2, q, _⟩ | ⟨rfl, p2, q, _⟩ | ⟨p1, q, _⟩
  · exact q
  · exfalso
    have hs2 := (hu.ok rfl).2.1 (thB B') hs (by simp [hq])
    have e2 := sol_ap hs2 hu.ends hu.gb (good_gd k.gb)
    have : fitB (sb (thB B') (AP y1 b)) = true := by rw [e2, eb]; exact hfb
    rw [grow_fit (AP_gd hu.ends hu.gb (good_gd k.gb)) this] at p2
    cases p2
  · exact absurd (by simp [hq]) (hu.bad p1 (thB B') hs)

/-! TypesStill. -/
theorem lk_ap {B : Bd} (h : EndB B) (hG : Gb B) {t : Ty} (hg : gd t = true) : LK B (AP B t) = AP B t := by
  have hl := LK_spec h hG hg
  by_cases hv : (LK B t).v = 0
  · refine LK_con h (AP_gd h hG hg) ?_
    rw [head_tree h hG hg]; exact hv
  · rw [← hl.2.1, AP_free hl.1 hv (hl.2.2 hv), LK_free hv (hl.2.2 hv)]
theorem uni_idem {B B' : Bd} {P P' : Pr} {xs ys : List Ty} {e : Int} (hu : UniL B P xs ys e B' P') : EndB B → Gb B → (∀ a ∈ xs, gd a = true) → ys = xs.map (AP B) → e = 0 ∧ B' = B := by
  induction hu with
  | nil => exact fun _ _ _ _ => ⟨rfl, rfl⟩
  | memo _ _ ih =>
    intro h hG hg hy
    simp only [List.map_cons, List.cons.injEq] at hy
    exact ih h hG (fun c hc => hg c (by simp [hc])) hy.2
  | same _ _ _ _ ih =>
    intro h hG hg hy
    simp only [List.map_cons, List.cons.injEq] at hy
    exact ih h hG (fun c hc => hg c (by simp [hc])) hy.2
  | @left B P a b xs ys e B' P' hm hv hvv ho _ ih =>
    intro h hG hg hy
    simp only [List.map_cons, List.cons.injEq] at hy
    have hga := hg a (by simp)
    rw [hy.1, lk_ap h hG hga, head_tree h hG hga] at hvv
    exact absurd rfl hvv
  | @leftE B P a b xs ys hm hv hvv ho =>
    intro h hG hg hy
    simp only [List.map_cons, List.cons.injEq] at hy
    have hga := hg a (by simp)
    rw [hy.1, lk_ap h hG hga, head_tree h hG hga] at hvv
    exact absurd rfl hvv
  | @right B P a b xs ys e B' P' hm hv hvv ho _ ih =>
    intro h hG hg hy
    simp only [List.map_cons, List.cons.injEq] at hy
    have hga := hg a (by simp)
    rw [hy.1, lk_ap h hG hga, head_tree h hG hga] at hvv
    exact absurd hv hvv
  | @rightE B P a b xs ys hm hv hvv ho =>
    intro h hG hg hy
    simp only [List.map_cons, List.cons.injEq] at hy
    have hga := hg a (by simp)
    rw [hy.1, lk_ap h hG hga, head_tree h hG hga] at hvv
    exact absurd hv hvv
  | @type B P a b xs ys hm hv hvv ho =>
    intro h hG hg hy
    simp only [List.map_cons, List.cons.injEq] at hy
    have hga := hg a (by simp)
    rw [hy.1, lk_ap h hG hga, head_tree h hG hga] at ho
    exact absurd ⟨rfl, by simp [Ty.args]⟩ ho
  | @con B P a b xs ys B1 P1 e B' P' hm hv hvv hn hl _ _ ih1 ih2 =>
    intro h hG hg hy
    simp only [List.map_cons, List.cons.injEq] at hy
    have hga := hg a (by simp)
    have hla := LK_spec h hG hga
    obtain ⟨_, rfl⟩ := ih1 h hG (gd_con hla.1 hv) (by rw [hy.1, lk_ap h hG hga, head_tree h hG hga]; rfl)
    exact ih2 h hG (fun c hc => hg c (by simp [hc])) hy.2
  | @conE B P a b xs ys e B1 P1 hm hv hvv hn hl _ he ih1 =>
    intro h hG hg hy
    simp only [List.map_cons, List.cons.injEq] at hy
    have hga := hg a (by simp)
    have hla := LK_spec h hG hga
    exact absurd (ih1 h hG (gd_con hla.1 hv) (by rw [hy.1, lk_ap h hG hga, head_tree h hG hga]; rfl)).1 he

theorem still_law {vs : Int} {B B' : Bd} {x : Ty} {e : Int} (hB : BG vs B) (hx : okT vs B x = true) (h : UnR vs B x (AP B x) e B') : e = 0 ∧ B' = B := by
  obtain ⟨hg, hf⟩ := ok_good hx
  have hG := hB.gp.gb
  have hga := AP_gp hB hg
  have hid := AP_idem hB.ends hG (good_gd hg)
  have hfa : fitB (AP B (AP B x)) = true := by rw [hid]; exact hf
  have oka : okT vs B (AP B x) = true := by unfold okT; rw [may_fit hB hga hfa, hfa]; rfl
  obtain ⟨x1, y1, z1, u1, v1⟩ := h.run (by rw [hx, oka]; rfl)
  obtain ⟨rfl, rfl⟩ := uni_idem u1 hB.ends hG (fun a ha => by rw [List.mem_singleton.1 ha]; exact good_gd hg) rfl
  rcases v1 with ⟨_, p2, q, r⟩ | ⟨_, p2, q, r⟩ | ⟨p1, q, r⟩
  · exact ⟨q, r⟩
  · rw [hf] at p2; cases p2
  · exact absurd rfl p1
theorem still_ap {vs : Int} {B : Bd} {x : Ty} (hB : BG vs B) (hx : okT vs B x = true) : ApT vs B x = AP B x ∧ ApT vs B (AP B x) = AP B x := by
  obtain ⟨hg, hf⟩ := ok_good hx
  have hid := AP_idem hB.ends hB.gp.gb (good_gd hg)
  rw [ApT_good hB hg, ApT_good hB (AP_gp hB hg), hid, hf]
  exact ⟨rfl, rfl⟩
theorem still_no {vs : Int} {B B' : Bd} {x : Ty} {e : Int} (hx : okT vs B x = false) (h : UnR vs B x x e B') : e = 1 ∧ B' = B := h.arg (by rw [hx]; rfl)
theorem ap_no {vs : Int} {B : Bd} {x : Ty} (hx : okT vs B x = false) : ApT vs B x = default := by
  unfold okT ownP at hx
  unfold ApT
  rw [hx]; rfl

/-! TypesOrder. -/
/-- Pairs that are made one, one after the other. -/
inductive Run (vs : Int) : Bd → List (Ty × Ty) → Bd → Prop where
  | nil {B} : Run vs B [] B
  | cons {B B1 B2 p l} : BG vs B1 → UnR vs B p.1 p.2 0 B1 → Run vs B1 l B2 → Run vs B (p :: l) B2
theorem Run.snoc {vs : Int} {B B1 B2 : Bd} {l : List (Ty × Ty)} {p : Ty × Ty} (h : Run vs B l B1) (h1 : BG vs B2) (hu : UnR vs B1 p.1 p.2 0 B2) : Run vs B (l ++ [p]) B2 := by
  induction h with
  | nil => exact .cons h1 hu .nil
  | cons g u _ ih => exact .cons g u (ih hu)
structure RunS (vs : Int) (B : Bd) (l : List (Ty × Ty)) (B' : Bd) : Prop where
  bg : BG vs B'
  ext : BExt B B'
  eqs : ∀ p ∈ l, goodB (ownP vs) p.1 = true ∧ goodB (ownP vs) p.2 = true ∧ sb (thB B') p.1 = sb (thB B') p.2
  sol : ∀ θ, Sol θ B → (∀ p ∈ l, sb θ p.1 = sb θ p.2) → Sol θ B'
theorem run_spec {vs : Int} {B B' : Bd} {l : List (Ty × Ty)} (h : Run vs B l B') : BG vs B → RunS vs B l B' := by
  induction h with
  | nil => exact fun h => ⟨h, fun v b q => q, fun p hp => (by cases hp), fun θ hs _ => hs⟩
  | @cons B B1 B2 p l g u _ ih =>
    intro hB
    have k := un_ok hB u
    have i := ih g
    have hs := th_sol i.bg.ends i.bg.gp.gb
    refine ⟨i.bg, fun v b q => i.ext v b (k.ext v b q), fun q hq => ?_, fun θ h1 h2 => i.sol θ (k.sol θ h1 (h2 p (by simp))) fun q hq => h2 q (by simp [hq])⟩
    rcases List.mem_cons.1 hq with rfl | hq
    · refine ⟨k.ga, k.gb, ?_⟩
      have hs1 := i.ext.sol hs
      rw [← sol_ap hs1 g.ends g.gp.gb (good_gd k.ga), k.eq, sol_ap hs1 g.ends g.gp.gb (good_gd k.gb)]
    · exact i.eqs q hq

/-- Two states that came of the same pairs, one of them turned about. -/
theorem two_runs {vs : Int} {B S T : Bd} {l : List (Ty × Ty)} (hB : BG vs B) (h0 : ∀ v, B v = none) (h1 : Run vs B l S) (h2 : Run vs B (l.reverse.map fun p => (p.2, p.1)) T) : Sol (thB S) T ∧ Sol (thB T) S := by
  have r1 := run_spec h1 hB
  have r2 := run_spec h2 hB
  have e0 : ∀ θ, Sol θ B := fun θ v b _ hb => by rw [h0] at hb; cases hb
  refine ⟨r2.sol _ (e0 _) fun p hp => ?_, r1.sol _ (e0 _) fun p hp => ?_⟩
  · obtain ⟨q, hq, rfl⟩ := List.mem_map.1 hp
    exact (r1.eqs q (List.mem_reverse.1 hq)).2.2.symm
  · exact (r2.eqs (p.2, p.1) (List.mem_map.2 ⟨p, List.mem_reverse.2 hp, rfl⟩)).2.2.symm
theorem two_ap {vs : Int} {S T : Bd} (hS : BG vs S) (hT : BG vs T) (h1 : Sol (thB S) T) {t : Ty} (hg : gd t = true) : sb (thB S) (AP T t) = AP S t := by
  rw [sol_ap h1 hT.ends hT.gp.gb hg, th_ap hS.ends hS.gp.gb hg]
theorem two_fit {vs : Int} {S T : Bd} (hS : BG vs S) (hT : BG vs T) (h1 : Sol (thB S) T) {t : Ty} (hg : gd t = true) (h : fitB (AP S t) = true) : fitB (AP T t) = true := by
  rw [← two_ap hS hT h1 hg] at h
  exact grow_fit (AP_gd hT.ends hT.gp.gb hg) h

end Go.Proofs
set_option linter.unusedSimpArgs false
set_option linter.unusedVariables false
namespace Go.Proofs
open Go Go.AL

mutual
def vsS : Ty → List Int → List Int
  | .mk v _ l, acc => if v = 0 then vsSL l acc else if v ∈ acc then acc else acc ++ [v]
def vsSL : List Ty → List Int → List Int
  | [], acc => acc
  | t :: r, acc => vsSL r (vsS t acc)
end
def letB (k : Nat) : List UInt8 := [UInt8.ofNat (97 + k)]
mutual
def txT (L : List Int) : Ty → List UInt8
  | .mk v n l => if v = 0 then n.data.toList ++ txL L l else letB (L.idxOf v)
def txL (L : List Int) : List Ty → List UInt8
  | [] => []
  | t :: r => (32 :: (if t.args.isEmpty then txT L t else 40 :: (txT L t ++ [41]))) ++ txL L r
end
theorem vsS_eq (t : Ty) (acc : List Int) : vsS t acc = if t.v = 0 then vsSL t.args acc else if t.v ∈ acc then acc else acc ++ [t.v] := by cases t; rw [vsS]; rfl
theorem txT_eq (L : List Int) (t : Ty) : txT L t = if t.v = 0 then t.name.data.toList ++ txL L t.args else letB (L.idxOf t.v) := by cases t; rw [txT]; rfl
theorem txL_app (L : List Int) (a b : List Ty) : txL L (a ++ b) = txL L a ++ txL L b := by
  induction a with
  | nil => rfl
  | cons x r ih => simp only [List.cons_append, txL, ih, List.append_assoc]
theorem vsSL_app (a b : List Ty) (acc : List Int) : vsSL (a ++ b) acc = vsSL b (vsSL a acc) := by
  induction a generalizing acc with
  | nil => rfl
  | cons x r ih => simp only [List.cons_append, vsSL, ih]

def txB (l : List UInt8) : ByteArray := ⟨l.toArray⟩
/-- A type's written form. -/
def showA (t : Ty) : ByteArray := if (goodB (ownP 6) t && fitB t) = true then txB (txT (vsS t []) t) else ⟨#[]⟩

/-- A variable that is renamed. -/
structure RenV (θ σ : Int → Ty) (v : Int) : Prop where
  nz : v ≠ 0
  var : (θ v).v ≠ 0
  bare : (θ v).args = []
  back : (σ (θ v).v).v = v

section
variable {θ σ : Int → Ty}
theorem ren_inj {v w : Int} (h1 : RenV θ σ v) (h2 : RenV θ σ w) (h : (θ v).v = (θ w).v) : v = w := by rw [← h1.back, h, h2.back]
theorem ren_mem {l : List Int} (hl : ∀ v ∈ l, RenV θ σ v) {v : Int} (hv : RenV θ σ v) : (θ v).v ∈ l.map (fun v => (θ v).v) ↔ v ∈ l := by
  constructor
  · intro h
    obtain ⟨w, hw, e⟩ := List.mem_map.1 h
    rw [← ren_inj (hl w hw) hv e]; exact hw
  · exact fun h => List.mem_map.2 ⟨v, h, rfl⟩
theorem ren_idx {v : Int} (hv : RenV θ σ v) : ∀ {l : List Int}, (∀ v ∈ l, RenV θ σ v) → (l.map (fun v => (θ v).v)).idxOf (θ v).v = l.idxOf v
  | [], _ => rfl
  | w :: r, hl => by
    have ih := ren_idx hv (l := r) fun x hx => hl x (by simp [hx])
    rw [List.map_cons, List.idxOf_cons, List.idxOf_cons, ih]
    by_cases e : w = v
    · simp [e]
    · have e2 : ((θ w).v == (θ v).v) = false := by
        simp only [beq_eq_false_iff_ne]
        exact fun q => e (ren_inj (hl w (by simp)) hv q)
      have e3 : (w == v) = false := by simpa using e
      rw [e2, e3]

mutual
theorem ren_vs : ∀ (t : Ty) (acc : List Int), (∀ v ∈ vsT t, RenV θ σ v) → (∀ v ∈ acc, RenV θ σ v) → vsS (sb θ t) (acc.map fun v => (θ v).v) = (vsS t acc).map (fun v => (θ v).v) ∧ ∀ v ∈ vsS t acc, RenV θ σ v
  | .mk v n l, acc, h1, h2 => by
    by_cases hv : v = 0
    · have h3 : ∀ v ∈ vsL l, RenV θ σ v := by
        rw [vsT, if_pos hv] at h1; exact h1
      rw [sb, if_pos hv, vsS, if_pos rfl, vsS, if_pos hv]
      exact ren_vsL l acc h3 h2
    · rw [vsT, if_neg hv] at h1
      have hr := h1 v (by simp)
      rw [sb, if_neg hv, vsS_eq, if_neg hr.var, vsS, if_neg hv]
      by_cases hm : v ∈ acc
      · rw [if_pos ((ren_mem h2 hr).2 hm), if_pos hm]
        exact ⟨rfl, h2⟩
      · rw [if_neg (fun q => hm ((ren_mem h2 hr).1 q)), if_neg hm]
        refine ⟨by simp, fun w hw => ?_⟩
        rcases List.mem_append.1 hw with q | q
        · exact h2 w q
        · rw [List.mem_singleton.1 q]; exact hr
theorem ren_vsL : ∀ (l : List Ty) (acc : List Int), (∀ v ∈ vsL l, RenV θ σ v) → (∀ v ∈ acc, RenV θ σ v) → vsSL (sbL θ l) (acc.map fun v => (θ v).v) = (vsSL l acc).map (fun v => (θ v).v) ∧ ∀ v ∈ vsSL l acc, RenV θ σ v
  | [], acc, _, h2 => ⟨rfl, h2⟩
  | t :: r, acc, h1, h2 => by
    rw [vsL] at h1
    obtain ⟨e1, e2⟩ := ren_vs t acc (fun v hv => h1 v (List.mem_append_left _ hv)) h2
    rw [sbL, vsSL, vsSL, e1]
    exact ren_vsL r _ (fun v hv => h1 v (List.mem_append_right _ hv)) e2
end
theorem sb_args_empty {t : Ty} (hg : gd t = true) (h : ∀ v ∈ vsT t, RenV θ σ v) : (sb θ t).args.isEmpty = t.args.isEmpty := by
  by_cases hv : t.v = 0
  · rw [sb_con hv]
    show (t.args.map (sb θ)).isEmpty = _
    cases t.args <;> rfl
  · have hr := h t.v (by rw [vs_var hv]; simp)
    rw [sb_var hv, hr.bare, gd_var hg hv]; rfl
mutual
theorem ren_tx {L : List Int} (hL : ∀ v ∈ L, RenV θ σ v) : ∀ (t : Ty), gd t = true → (∀ v ∈ vsT t, RenV θ σ v) → txT (L.map fun v => (θ v).v) (sb θ t) = txT L t
  | .mk v n l, hg, h1 => by
    by_cases hv : v = 0
    · have h3 : ∀ v ∈ vsL l, RenV θ σ v := by
        rw [vsT, if_pos hv] at h1; exact h1
      rw [sb, if_pos hv, txT, if_pos rfl, txT, if_pos hv, ren_txL hL l (gd_con hg hv) h3]
    · rw [vsT, if_neg hv] at h1
      have hr := h1 v (by simp)
      rw [sb, if_neg hv, txT_eq, if_neg hr.var, txT, if_neg hv, ren_idx hr hL]
theorem ren_txL {L : List Int} (hL : ∀ v ∈ L, RenV θ σ v) : ∀ (l : List Ty), (∀ t ∈ l, gd t = true) → (∀ v ∈ vsL l, RenV θ σ v) → txL (L.map fun v => (θ v).v) (sbL θ l) = txL L l
  | [], _, _ => rfl
  | t :: r, hg, h1 => by
    rw [vsL] at h1
    have h2 : ∀ v ∈ vsT t, RenV θ σ v := fun v hv => h1 v (List.mem_append_left _ hv)
    rw [sbL, txL, txL, ren_tx hL t (hg t (by simp)) h2, ren_txL hL r (fun a ha => hg a (by simp [ha])) (fun v hv => h1 v (List.mem_append_right _ hv)), sb_args_empty (hg t (by simp)) h2]
end

mutual
theorem ren_of : ∀ (t : Ty), gd t = true → gd (sb θ t) = true → sb σ (sb θ t) = t → ∀ v ∈ vsT t, RenV θ σ v
  | .mk v n l, hg, hg2, h, w, hw => by
    by_cases hv : v = 0
    · rw [vsT, if_pos hv] at hw
      rw [sb, if_pos hv] at h hg2
      rw [sb, if_pos rfl] at h
      injection h with _ _ h3
      exact ren_ofL l (gd_con hg hv) (gd_con hg2 rfl) h3 w hw
    · rw [vsT, if_neg hv] at hw
      obtain rfl := List.mem_singleton.1 hw
      rw [sb, if_neg hv] at h hg2
      have h0 : (θ w).v ≠ 0 := fun q => by
        rw [sb_con q] at h
        injection h with h1 _ _
        exact hv h1.symm
      rw [sb_var h0] at h
      exact ⟨hv, h0, by rw [gd_var hg2 h0]; rfl, by rw [h]; rfl⟩
theorem ren_ofL : ∀ (l : List Ty), (∀ t ∈ l, gd t = true) → (∀ t ∈ sbL θ l, gd t = true) → sbL σ (sbL θ l) = l → ∀ v ∈ vsL l, RenV θ σ v
  | [], _, _, _, w, hw => by cases hw
  | t :: r, hg, hg2, h, w, hw => by
    rw [sbL] at h hg2
    rw [sbL] at h
    injection h with h1 h2
    rw [vsL] at hw
    rcases List.mem_append.1 hw with q | q
    · exact ren_of t (hg t (by simp)) (hg2 _ (by simp)) h1 w q
    · exact ren_ofL r (fun a ha => hg a (by simp [ha])) (fun a ha => hg2 a (by simp [ha])) h2 w q
end

/-- Types that are instances of each other are written the same. -/
theorem show_ren {t u : Ty} (ht : gd t = true) (hu : gd u = true) (h1 : sb θ t = u) (h2 : sb σ u = t) : txT (vsS t []) t = txT (vsS u []) u := by
  have hr := ren_of (θ := θ) (σ := σ) t ht (by rw [h1]; exact hu) (by rw [h1]; exact h2)
  obtain ⟨e1, e2⟩ := ren_vs t [] hr (fun v hv => by cases hv)
  rw [h1] at e1
  have e3 := ren_tx e2 t ht hr
  rw [h1] at e3
  rw [← e3, ← e1]; rfl
end

theorem show_default : showA default = ⟨#[]⟩ := by
  unfold showA
  have : goodB (ownP 6) default = false := by
    rw [goodB_eq]
    show (if (0 : Int) = 0 then !(ByteArray.toList ⟨#[]⟩ == ByteArray.toList ⟨#[]⟩) && _ else _) = false
    simp
  rw [this]; rfl

theorem order_show {S T : Bd} (hS : BG 6 S) (hT : BG 6 T) (h1 : Sol (thB S) T) (h2 : Sol (thB T) S) {t : Ty} (hg : goodB (ownP 6) t = true) : showA (ApT 6 S t) = showA (ApT 6 T t) := by
  rw [ApT_good hS hg, ApT_good hT hg]
  have hgd := good_gd hg
  cases hf : fitB (AP S t) with
  | false =>
    cases hf2 : fitB (AP T t) with
    | false => rfl
    | true => rw [two_fit hT hS h2 hgd hf2] at hf; cases hf
  | true =>
    have hf2 := two_fit hS hT h1 hgd hf
    rw [hf2, if_pos rfl, if_pos rfl]
    unfold showA
    rw [AP_gp hS hg, AP_gp hT hg, hf, hf2]
    simp only [Bool.and_self, if_true]
    exact congrArg txB (show_ren (AP_gd hS.ends hS.gp.gb hgd) (AP_gd hT.ends hT.gp.gb hgd) (two_ap hT hS h2 hgd) (two_ap hS hT h1 hgd))

end Go.Proofs
