/- Bindings of variables, and types as they are under them: plain laws. -/
import Derived.Test.YteclbnjpijakbaaDoorData
set_option linter.unusedSimpArgs false
set_option linter.unusedVariables false
namespace Go.AL

abbrev Bd := Int → Option Ty

/-- So much fuel is enough to reckon what a type is. -/
def En (B : Bd) : Nat → Ty → Prop
  | 0, _ => False
  | n + 1, t => if t.v = 0 then ∀ a ∈ t.args, En B n a else match B t.v with | none => True | some b => En B n b
/-- What a type is. -/
def ap (B : Bd) : Nat → Ty → Ty
  | 0, t => t
  | n + 1, t => if t.v = 0 then .mk 0 t.name (t.args.map (ap B n)) else match B t.v with | none => .mk t.v t.name [] | some b => ap B n b

theorem en_con {B : Bd} {n : Nat} {t : Ty} (h : t.v = 0) : En B (n + 1) t = ∀ a ∈ t.args, En B n a := by rw [En, if_pos h]
theorem en_free {B : Bd} {n : Nat} {t : Ty} (h : t.v ≠ 0) (hb : B t.v = none) : En B (n + 1) t := by rw [En, if_neg h, hb]; trivial
theorem en_bound {B : Bd} {n : Nat} {t b : Ty} (h : t.v ≠ 0) (hb : B t.v = some b) : En B (n + 1) t = En B n b := by rw [En, if_neg h, hb]
theorem ap_con {B : Bd} {n : Nat} {t : Ty} (h : t.v = 0) : ap B (n + 1) t = .mk 0 t.name (t.args.map (ap B n)) := by rw [ap, if_pos h]
theorem ap_free {B : Bd} {n : Nat} {t : Ty} (h : t.v ≠ 0) (hb : B t.v = none) : ap B (n + 1) t = .mk t.v t.name [] := by rw [ap, if_neg h, hb]
theorem ap_bound {B : Bd} {n : Nat} {t b : Ty} (h : t.v ≠ 0) (hb : B t.v = some b) : ap B (n + 1) t = ap B n b := by rw [ap, if_neg h, hb]

theorem En.mono {B : Bd} : ∀ {n m : Nat} {t : Ty}, En B n t → n ≤ m → En B m t ∧ ap B m t = ap B n t := by
  intro n
  induction n with
  | zero => intro m t h; exact h.elim
  | succ n ih =>
    intro m t h hm
    obtain ⟨m, rfl⟩ : ∃ k, m = k + 1 := ⟨m - 1, by omega⟩
    by_cases hv : t.v = 0
    · rw [en_con hv] at h
      refine ⟨by rw [en_con hv]; exact fun a ha => (ih (h a ha) (by omega)).1, ?_⟩
      rw [ap_con hv, ap_con hv]
      congr 1
      exact List.map_congr_left fun a ha => (ih (h a ha) (by omega)).2
    · cases hb : B t.v with
      | none => exact ⟨en_free hv hb, by rw [ap_free hv hb, ap_free hv hb]⟩
      | some b =>
        rw [en_bound hv hb] at h
        have := ih h (show n ≤ m by omega)
        exact ⟨by rw [en_bound hv hb]; exact this.1, by rw [ap_bound hv hb, ap_bound hv hb]; exact this.2⟩

open Classical in
noncomputable def AP (B : Bd) (t : Ty) : Ty := if h : ∃ n, En B n t then ap B h.choose t else t

theorem AP_eq {B : Bd} {n : Nat} {t : Ty} (h : En B n t) : AP B t = ap B n t := by
  have hx : ∃ n, En B n t := ⟨n, h⟩
  unfold AP
  rw [dif_pos hx]
  have h2 := hx.choose_spec
  rcases Nat.le_total hx.choose n with q | q
  · exact (h2.mono q).2.symm
  · exact (h.mono q).2

/-- All types have an end under the bindings. -/
def EndB (B : Bd) : Prop := ∀ v, v ≠ 0 → ∃ n, En B n (.mk v ⟨#[]⟩ [])

/-- A type that may be: variables are bare. -/
def gd (t : Ty) : Bool := goodB (fun _ => true) t
theorem good_gd {p : Int → Bool} : ∀ {t : Ty}, goodB p t = true → gd t = true := by
  intro t
  suffices h : ∀ n, ∀ t : Ty, nd t ≤ n → goodB p t = true → gd t = true from h _ t (Nat.le_refl _)
  intro n
  induction n with
  | zero => intro t h; have := nd_pos t; omega
  | succ n ih =>
    intro t hn h
    unfold gd
    rw [goodB_eq] at h ⊢
    by_cases hv : t.v = 0
    · rw [if_pos hv] at h ⊢
      simp only [Bool.and_eq_true] at h ⊢
      refine ⟨h.1, ?_⟩
      have hl := h.2
      have hnn := nd_eq t
      have key : ∀ l : List Ty, ndL l ≤ n → goodL p l = true → goodL (fun _ => true) l = true := by
        intro l
        induction l with
        | nil => intro _ _; rfl
        | cons a r ihl =>
          intro h1 h2
          rw [goodL, Bool.and_eq_true] at h2 ⊢
          rw [ndL] at h1
          exact ⟨ih a (by omega) h2.1, ihl (by omega) h2.2⟩
      exact key t.args (by omega) hl
    · rw [if_neg hv] at h ⊢
      simp only [Bool.and_eq_true] at h ⊢
      exact ⟨h.1, trivial⟩
theorem gd_con {t : Ty} (h : gd t = true) (hv : t.v = 0) : ∀ a ∈ t.args, gd a = true := by
  unfold gd at h
  rw [goodB_eq, if_pos hv, Bool.and_eq_true] at h
  exact fun a ha => good_mem ha h.2
theorem ba_nil {b : ByteArray} (h : (b.toList == ByteArray.toList ⟨#[]⟩) = true) : b = ⟨#[]⟩ := by
  have h : b.toList = ByteArray.toList ⟨#[]⟩ := by simpa using h
  have e1 : b.data.toList = [] := by rw [← ByteArray.toList_eq, h]; decide +kernel
  cases b with
  | mk d => cases d with
    | mk l => simp at e1; rw [e1]
theorem gd_var {t : Ty} (h : gd t = true) (hv : t.v ≠ 0) : t = .mk t.v ⟨#[]⟩ [] := by
  unfold gd at h
  rw [goodB_eq, if_neg hv] at h
  simp only [Bool.and_eq_true] at h
  have h1 := ba_nil h.1.1
  have h2 : t.args = [] := by simpa using h.1.2
  cases t with
  | mk v n l => simp only [Ty.name, Ty.args, Ty.v] at h1 h2 ⊢; rw [h1, h2]

/-- A bound on the fuel of all in a list. -/
theorem en_list {B : Bd} : ∀ {l : List Ty}, (∀ a ∈ l, ∃ n, En B n a) → ∃ n, ∀ a ∈ l, En B n a
  | [], _ => ⟨0, fun a h => by cases h⟩
  | a :: r, h => by
    obtain ⟨n, hn⟩ := h a (by simp)
    obtain ⟨m, hm⟩ := en_list (l := r) fun b hb => h b (by simp [hb])
    refine ⟨max n m, fun b hb => ?_⟩
    rcases List.mem_cons.1 hb with rfl | hb
    · exact (hn.mono (by omega)).1
    · exact ((hm b hb).mono (by omega)).1

theorem EndB.all {B : Bd} (h : EndB B) {t : Ty} (hg : gd t = true) : ∃ n, En B n t := by
  suffices key : ∀ k, ∀ t : Ty, nd t ≤ k → gd t = true → ∃ n, En B n t from key _ t (Nat.le_refl _) hg
  intro k
  induction k with
  | zero => intro t hk; have := nd_pos t; omega
  | succ k ih =>
    intro t hk hg
    by_cases hv : t.v = 0
    · obtain ⟨n, hn⟩ := en_list (B := B) (l := t.args) fun a ha => ih a (by have := nd_eq t; have := nd_mem ha; omega) (gd_con hg hv a ha)
      exact ⟨n + 1, by rw [en_con hv]; exact hn⟩
    · rw [gd_var hg hv]; exact h t.v hv

/-! What a type is, step by step. -/
theorem AP_con {B : Bd} (h : EndB B) {t : Ty} (hg : gd t = true) (hv : t.v = 0) : AP B t = .mk 0 t.name (t.args.map (AP B)) := by
  obtain ⟨n, hn⟩ := en_list (B := B) (l := t.args) fun a ha => h.all (gd_con hg hv a ha)
  have : En B (n + 1) t := by rw [en_con hv]; exact hn
  rw [AP_eq this, ap_con hv]
  congr 1
  exact List.map_congr_left fun a ha => (AP_eq (hn a ha)).symm
theorem AP_free {B : Bd} {t : Ty} (hg : gd t = true) (hv : t.v ≠ 0) (hb : B t.v = none) : AP B t = t := by
  rw [AP_eq (en_free (n := 0) hv hb), ap_free hv hb]
  have := gd_var hg hv
  rw [this]; rfl
theorem AP_bound {B : Bd} (h : EndB B) {t b : Ty} (hv : t.v ≠ 0) (hb : B t.v = some b) (hgb : gd b = true) : AP B t = AP B b := by
  obtain ⟨n, hn⟩ := h.all hgb
  have : En B (n + 1) t := by rw [en_bound hv hb]; exact hn
  rw [AP_eq this, ap_bound hv hb, AP_eq hn]

/-- The bindings are of types that may be. -/
def Gb (B : Bd) : Prop := ∀ v b, B v = some b → gd b = true

theorem AP_gd {B : Bd} (h : EndB B) (hG : Gb B) {t : Ty} (hg : gd t = true) : gd (AP B t) = true := by
  obtain ⟨n, hn⟩ := h.all hg
  induction n generalizing t with
  | zero => exact hn.elim
  | succ n ih =>
    by_cases hv : t.v = 0
    · rw [en_con hv] at hn
      rw [AP_con h hg hv]
      have hl : ∀ l : List Ty, (∀ a ∈ l, gd (AP B a) = true) → goodL (fun _ => true) (l.map (AP B)) = true := by
        intro l
        induction l with
        | nil => intro _; rfl
        | cons a r ihl =>
          intro hl
          rw [List.map_cons, goodL, Bool.and_eq_true]
          exact ⟨hl a (by simp), ihl fun b hb => hl b (by simp [hb])⟩
      have h1 := hl t.args fun a ha => ih (gd_con hg hv a ha) (hn a ha)
      unfold gd at hg ⊢
      rw [goodB_eq, if_pos hv, Bool.and_eq_true] at hg
      rw [goodB_eq]
      show (if (0 : Int) = 0 then _ else _) = true
      rw [if_pos rfl, Bool.and_eq_true]
      exact ⟨hg.1, h1⟩
    · cases hb : B t.v with
      | none => rw [AP_free hg hv hb]; exact hg
      | some b =>
        rw [en_bound hv hb] at hn
        rw [AP_bound h hv hb (hG _ _ hb)]
        exact ih (hG _ _ hb) hn

/-! The variables of a type. -/
mutual
def vsT : Ty → List Int
  | .mk v _ l => if v = 0 then vsL l else [v]
def vsL : List Ty → List Int
  | [] => []
  | t :: r => vsT t ++ vsL r
end
theorem vs_con {t : Ty} (h : t.v = 0) : vsT t = vsL t.args := by
  cases t with
  | mk v n l => simp only [Ty.v] at h; rw [vsT, if_pos h]; rfl
theorem vs_var {t : Ty} (h : t.v ≠ 0) : vsT t = [t.v] := by
  cases t with
  | mk v n l => simp only [Ty.v] at h; rw [vsT, if_neg h]; rfl
theorem mem_vsL {x : Int} : ∀ {l : List Ty}, x ∈ vsL l ↔ ∃ a ∈ l, x ∈ vsT a
  | [] => by simp [vsL]
  | a :: r => by rw [vsL, List.mem_append, mem_vsL]; simp

/-- A variable that is not in what a type is may be bound to anything. -/
def bindB (B : Bd) (x : Int) (b : Ty) : Bd := fun v => if v = x then some b else B v

theorem en_bind {B : Bd} (h : EndB B) (hG : Gb B) {x : Int} (hx : B x = none) {c : Ty} : ∀ {n : Nat} {t : Ty}, gd t = true → En B n t → x ∉ vsT (AP B t) → En (bindB B x c) n t ∧ ap (bindB B x c) n t = ap B n t := by
  intro n
  induction n with
  | zero => intro t _ hn; exact hn.elim
  | succ n ih =>
    intro t hg hn ho
    by_cases hv : t.v = 0
    · rw [en_con hv] at hn
      rw [AP_con h hg hv, vs_con rfl] at ho
      have ha : ∀ a ∈ t.args, x ∉ vsT (AP B a) := fun a ha hm => ho (mem_vsL.2 ⟨AP B a, List.mem_map.2 ⟨a, ha, rfl⟩, hm⟩)
      refine ⟨by rw [en_con hv]; exact fun a hm => (ih (gd_con hg hv a hm) (hn a hm) (ha a hm)).1, ?_⟩
      rw [ap_con hv, ap_con hv]
      congr 1
      exact List.map_congr_left fun a hm => (ih (gd_con hg hv a hm) (hn a hm) (ha a hm)).2
    · cases hb : B t.v with
      | none =>
        rw [AP_free hg hv hb, vs_var hv] at ho
        have hne : t.v ≠ x := fun e => ho (by simp [e])
        have hb2 : bindB B x c t.v = none := by unfold bindB; rw [if_neg hne]; exact hb
        exact ⟨en_free hv hb2, by rw [ap_free hv hb2, ap_free hv hb]⟩
      | some b =>
        have hne : t.v ≠ x := fun e => by rw [e, hx] at hb; cases hb
        have hb2 : bindB B x c t.v = some b := by unfold bindB; rw [if_neg hne]; exact hb
        rw [en_bound hv hb] at hn
        rw [AP_bound h hv hb (hG _ _ hb)] at ho
        have := ih (hG _ _ hb) hn ho
        exact ⟨by rw [en_bound hv hb2]; exact this.1, by rw [ap_bound hv hb2, ap_bound hv hb]; exact this.2⟩

theorem EndB.bind {B : Bd} (h : EndB B) (hG : Gb B) {x : Int} (hx : B x = none) {c : Ty} (hc : gd c = true) (ho : x ∉ vsT (AP B c)) : EndB (bindB B x c) := by
  obtain ⟨m, hm⟩ := h.all hc
  have hm2 := (en_bind h hG hx (c := c) hc hm ho).1
  have key : ∀ n, ∀ t : Ty, gd t = true → En B n t → En (bindB B x c) (n + m) t := by
    intro n
    induction n with
    | zero => intro t _ hn; exact hn.elim
    | succ n ih =>
      intro t hg hn
      rw [show n + 1 + m = (n + m) + 1 by omega]
      by_cases hv : t.v = 0
      · rw [en_con hv] at hn ⊢
        exact fun a ha => ih a (gd_con hg hv a ha) (hn a ha)
      · by_cases e : t.v = x
        · have hb2 : bindB B x c t.v = some c := by unfold bindB; rw [if_pos e]
          rw [en_bound hv hb2]
          exact (hm2.mono (by omega)).1
        · cases hb : B t.v with
          | none => exact en_free hv (by unfold bindB; rw [if_neg e]; exact hb)
          | some b =>
            have hb2 : bindB B x c t.v = some b := by unfold bindB; rw [if_neg e]; exact hb
            rw [en_bound hv hb] at hn
            rw [en_bound hv hb2]
            exact ih b (hG _ _ hb) hn
  intro v hv
  obtain ⟨n, hn⟩ := h v hv
  exact ⟨n + m, key n _ (by unfold gd; rw [goodB_eq]; simp [Ty.v, hv, Ty.name, Ty.args]) hn⟩

theorem Gb.bind {B : Bd} (hG : Gb B) {x : Int} {c : Ty} (hc : gd c = true) : Gb (bindB B x c) := fun v b h => by
  unfold bindB at h
  split at h
  · cases h; exact hc
  · exact hG v b h

/-! Substitutions. -/
mutual
def sb (θ : Int → Ty) : Ty → Ty
  | .mk v n l => if v = 0 then .mk 0 n (sbL θ l) else θ v
def sbL (θ : Int → Ty) : List Ty → List Ty
  | [] => []
  | t :: r => sb θ t :: sbL θ r
end
theorem sbL_eq (θ : Int → Ty) (l : List Ty) : sbL θ l = l.map (sb θ) := by
  induction l with
  | nil => rfl
  | cons a r ih => rw [sbL, ih]; rfl
theorem sb_con {θ : Int → Ty} {t : Ty} (h : t.v = 0) : sb θ t = .mk 0 t.name (t.args.map (sb θ)) := by
  cases t with
  | mk v n l => simp only [Ty.v] at h; rw [sb, if_pos h, sbL_eq]; rfl
theorem sb_var {θ : Int → Ty} {t : Ty} (h : t.v ≠ 0) : sb θ t = θ t.v := by
  cases t with
  | mk v n l => simp only [Ty.v] at h; rw [sb, if_neg h]; rfl

/-- A substitution agrees with the bindings. -/
def Sol (θ : Int → Ty) (B : Bd) : Prop := ∀ v b, v ≠ 0 → B v = some b → θ v = sb θ b

theorem sol_ap {θ : Int → Ty} {B : Bd} (hs : Sol θ B) (h : EndB B) (hG : Gb B) {t : Ty} (hg : gd t = true) : sb θ (AP B t) = sb θ t := by
  obtain ⟨n, hn⟩ := h.all hg
  induction n generalizing t with
  | zero => exact hn.elim
  | succ n ih =>
    by_cases hv : t.v = 0
    · rw [en_con hv] at hn
      rw [AP_con h hg hv, sb_con hv, sb_con rfl]
      show Ty.mk 0 t.name ((t.args.map (AP B)).map (sb θ)) = _
      rw [List.map_map]
      congr 1
      exact List.map_congr_left fun a ha => ih (gd_con hg hv a ha) (hn a ha)
    · cases hb : B t.v with
      | none => rw [AP_free hg hv hb]
      | some b =>
        rw [en_bound hv hb] at hn
        rw [AP_bound h hv hb (hG _ _ hb), ih (hG _ _ hb) hn, sb_var hv]
        exact (hs _ _ hv hb).symm

/-- What each variable is. -/
noncomputable def thB (B : Bd) : Int → Ty := fun v => AP B (.mk v ⟨#[]⟩ [])
theorem gd_mkv {v : Int} (hv : v ≠ 0) : gd (.mk v ⟨#[]⟩ []) = true := by unfold gd; rw [goodB_eq]; simp [Ty.v, hv, Ty.name, Ty.args]
theorem th_ap {B : Bd} (h : EndB B) (hG : Gb B) {t : Ty} (hg : gd t = true) : sb (thB B) t = AP B t := by
  suffices key : ∀ k, ∀ t : Ty, nd t ≤ k → gd t = true → sb (thB B) t = AP B t from key _ t (Nat.le_refl _) hg
  intro k
  induction k with
  | zero => intro t hk; have := nd_pos t; omega
  | succ k ih =>
    intro t hk hg
    by_cases hv : t.v = 0
    · rw [sb_con hv, AP_con h hg hv]
      congr 1
      exact List.map_congr_left fun a ha => ih a (by have := nd_eq t; have := nd_mem ha; omega) (gd_con hg hv a ha)
    · rw [sb_var hv]
      unfold thB
      rw [← gd_var hg hv]
theorem th_sol {B : Bd} (h : EndB B) (hG : Gb B) : Sol (thB B) B := fun v b hv hb => by
  rw [th_ap h hG (hG _ _ hb)]
  exact AP_bound h (t := .mk v ⟨#[]⟩ []) hv hb (hG _ _ hb)

end Go.AL
set_option linter.unusedSimpArgs false
set_option linter.unusedVariables false
namespace Go.AL

/-- What a type is, at its head. -/
def lk (B : Bd) : Nat → Ty → Ty
  | 0, t => t
  | n + 1, t => if t.v = 0 then t else match B t.v with | none => t | some b => lk B n b
theorem lk_mono {B : Bd} : ∀ {n m : Nat} {t : Ty}, En B n t → n ≤ m → lk B m t = lk B n t := by
  intro n
  induction n with
  | zero => intro m t h; exact h.elim
  | succ n ih =>
    intro m t h hm
    obtain ⟨m, rfl⟩ : ∃ k, m = k + 1 := ⟨m - 1, by omega⟩
    by_cases hv : t.v = 0
    · rw [lk, if_pos hv, lk, if_pos hv]
    · cases hb : B t.v with
      | none => rw [lk, if_neg hv, hb, lk, if_neg hv, hb]
      | some b =>
        rw [en_bound hv hb] at h
        rw [lk, if_neg hv, hb, lk, if_neg hv, hb]
        exact ih h (by omega)
open Classical in
noncomputable def LK (B : Bd) (t : Ty) : Ty := if h : ∃ n, En B n t then lk B h.choose t else t
theorem LK_eq {B : Bd} {n : Nat} {t : Ty} (h : En B n t) : LK B t = lk B n t := by
  have hx : ∃ n, En B n t := ⟨n, h⟩
  unfold LK
  rw [dif_pos hx]
  have h2 := hx.choose_spec
  rcases Nat.le_total hx.choose n with q | q
  · exact (lk_mono h2 q).symm
  · exact lk_mono h q
theorem LK_con {B : Bd} (h : EndB B) {t : Ty} (hg : gd t = true) (hv : t.v = 0) : LK B t = t := by
  obtain ⟨n, hn⟩ := h.all hg
  cases n with
  | zero => exact hn.elim
  | succ n => rw [LK_eq hn, lk, if_pos hv]
theorem LK_free {B : Bd} {t : Ty} (hv : t.v ≠ 0) (hb : B t.v = none) : LK B t = t := by
  rw [LK_eq (en_free (n := 0) hv hb), lk, if_neg hv, hb]
theorem LK_bound {B : Bd} (h : EndB B) {t b : Ty} (hv : t.v ≠ 0) (hb : B t.v = some b) (hgb : gd b = true) : LK B t = LK B b := by
  obtain ⟨n, hn⟩ := h.all hgb
  have : En B (n + 1) t := by rw [en_bound hv hb]; exact hn
  rw [LK_eq this, lk, if_neg hv, hb, LK_eq hn]

/-- What LK tells. -/
theorem LK_spec {B : Bd} (h : EndB B) (hG : Gb B) {t : Ty} (hg : gd t = true) : gd (LK B t) = true ∧ AP B (LK B t) = AP B t ∧ ((LK B t).v ≠ 0 → B (LK B t).v = none) := by
  obtain ⟨n, hn⟩ := h.all hg
  induction n generalizing t with
  | zero => exact hn.elim
  | succ n ih =>
    by_cases hv : t.v = 0
    · rw [LK_con h hg hv]; exact ⟨hg, rfl, fun q => absurd hv q⟩
    · cases hb : B t.v with
      | none => rw [LK_free hv hb]; exact ⟨hg, rfl, fun _ => hb⟩
      | some b =>
        rw [en_bound hv hb] at hn
        rw [LK_bound h hv hb (hG _ _ hb), AP_bound h hv hb (hG _ _ hb)]
        exact ih (hG _ _ hb) hn

/-! A tree that is a part of another. -/
inductive Sub : Ty → Ty → Prop where
  | arg {s t : Ty} : t.v = 0 → s ∈ t.args → Sub s t
  | deep {s c t : Ty} : t.v = 0 → c ∈ t.args → Sub s c → Sub s t
theorem Sub.lt {s t : Ty} (h : Sub s t) : nd s < nd t := by
  induction h with
  | arg hv hm => have := nd_eq ‹Ty›; have := nd_mem hm; omega
  | @deep c t hv hm _ ih => have := nd_eq t; have := nd_mem hm; omega
theorem Sub.sb {θ : Int → Ty} {s t : Ty} (h : Sub s t) : Sub (sb θ s) (sb θ t) := by
  induction h with
  | @arg t hv hm => exact .arg (by rw [sb_con hv]; rfl) (by rw [sb_con hv]; exact List.mem_map.2 ⟨s, hm, rfl⟩)
  | @deep c t hv hm _ ih => exact .deep (c := Go.AL.sb θ c) (by rw [sb_con hv]; rfl) (by rw [sb_con hv]; exact List.mem_map.2 ⟨c, hm, rfl⟩) ih
theorem Sub.trans {s c t : Ty} (h : Sub s c) (k : Sub c t) : Sub s t := by
  induction k with
  | arg hv hm => exact .deep hv hm h
  | deep hv hm _ ih => exact .deep hv hm ih

theorem vs_sub {x : Int} {θ : Int → Ty} : ∀ {t : Ty}, t.v = 0 → x ∈ vsT t → nd (θ x) < nd (sb θ t) := by
  intro t
  suffices key : ∀ k, ∀ t : Ty, nd t ≤ k → t.v = 0 → x ∈ vsT t → nd (θ x) < nd (sb θ t) from key _ t (Nat.le_refl _)
  intro k
  induction k with
  | zero => intro t hk; have := nd_pos t; omega
  | succ k ih =>
    intro t hk hv hx
    rw [vs_con hv, mem_vsL] at hx
    obtain ⟨a, ha, hxa⟩ := hx
    have h1 : nd (sb θ a) < nd (sb θ t) := (Sub.arg (by rw [sb_con hv]; rfl) (by rw [sb_con hv]; exact List.mem_map.2 ⟨a, ha, rfl⟩)).lt
    by_cases hav : a.v = 0
    · have := ih a (by have := nd_eq t; have := nd_mem ha; omega) hav hxa
      omega
    · rw [vs_var hav] at hxa
      simp only [List.mem_singleton] at hxa
      rw [sb_var hav, ← hxa] at h1
      exact h1

/-! Making types one. -/
abbrev Pr := Int → Int → Bool
def addP (P : Pr) (a b : Ty) : Pr := fun x y => P x y || (decide (a.v ≠ 0) && decide (b.v ≠ 0) && decide (x = a.v) && decide (y = b.v))
def memo (P : Pr) (a b : Ty) : Prop := a.v ≠ 0 ∧ b.v ≠ 0 ∧ P a.v b.v = true

/-- Pairs of two lists are made one, one after the other: what comes of it (0: OK, 23: ErrType, 25: ErrLoop). -/
inductive UniL : Bd → Pr → List Ty → List Ty → Int → Bd → Pr → Prop where
  | nil {B P} : UniL B P [] [] 0 B P
  | memo {B P a b xs ys e B' P'} : memo P a b → UniL B P xs ys e B' P' → UniL B P (a :: xs) (b :: ys) e B' P'
  | same {B P a b xs ys e B' P'} : ¬ memo P a b → (LK B a).v ≠ 0 → (LK B a).v = (LK B b).v → UniL B (addP P a b) xs ys e B' P' → UniL B P (a :: xs) (b :: ys) e B' P'
  | left {B P a b xs ys e B' P'} : ¬ memo P a b → (LK B a).v ≠ 0 → (LK B a).v ≠ (LK B b).v → (LK B a).v ∉ vsT (AP B (LK B b)) → UniL (bindB B (LK B a).v (LK B b)) (addP P a b) xs ys e B' P' → UniL B P (a :: xs) (b :: ys) e B' P'
  | leftE {B P a b xs ys} : ¬ memo P a b → (LK B a).v ≠ 0 → (LK B a).v ≠ (LK B b).v → (LK B a).v ∈ vsT (AP B (LK B b)) → UniL B P (a :: xs) (b :: ys) 25 B (addP P a b)
  | right {B P a b xs ys e B' P'} : ¬ memo P a b → (LK B a).v = 0 → (LK B b).v ≠ 0 → (LK B b).v ∉ vsT (AP B (LK B a)) → UniL (bindB B (LK B b).v (LK B a)) (addP P a b) xs ys e B' P' → UniL B P (a :: xs) (b :: ys) e B' P'
  | rightE {B P a b xs ys} : ¬ memo P a b → (LK B a).v = 0 → (LK B b).v ≠ 0 → (LK B b).v ∈ vsT (AP B (LK B a)) → UniL B P (a :: xs) (b :: ys) 25 B (addP P a b)
  | type {B P a b xs ys} : ¬ memo P a b → (LK B a).v = 0 → (LK B b).v = 0 → ¬ ((LK B a).name = (LK B b).name ∧ (LK B a).args.length = (LK B b).args.length) → UniL B P (a :: xs) (b :: ys) 23 B (addP P a b)
  | con {B P a b xs ys B1 P1 e B' P'} : ¬ memo P a b → (LK B a).v = 0 → (LK B b).v = 0 → (LK B a).name = (LK B b).name → (LK B a).args.length = (LK B b).args.length → UniL B (addP P a b) (LK B a).args (LK B b).args 0 B1 P1 →
      UniL B1 P1 xs ys e B' P' → UniL B P (a :: xs) (b :: ys) e B' P'
  | conE {B P a b xs ys e B1 P1} : ¬ memo P a b → (LK B a).v = 0 → (LK B b).v = 0 → (LK B a).name = (LK B b).name → (LK B a).args.length = (LK B b).args.length → UniL B (addP P a b) (LK B a).args (LK B b).args e B1 P1 → e ≠ 0 →
      UniL B P (a :: xs) (b :: ys) e B1 P1

def Done (B : Bd) (x y : Int) : Prop := AP B (.mk x ⟨#[]⟩ []) = AP B (.mk y ⟨#[]⟩ [])
def Up (B : Bd) (x : Int) (a : Ty) : Prop := Sub (AP B a) (AP B (.mk x ⟨#[]⟩ []))

/-- More is bound. -/
def BExt (B B' : Bd) : Prop := ∀ v b, B v = some b → B' v = some b
theorem ext_bind {B : Bd} {x : Int} {c : Ty} (hx : B x = none) : BExt B (bindB B x c) := fun v b h => by
  unfold bindB
  by_cases e : v = x
  · rw [e, hx] at h; cases h
  · rw [if_neg e]; exact h
theorem BExt.sol {B B' : Bd} (h : BExt B B') {θ : Int → Ty} (hs : Sol θ B') : Sol θ B := fun v b hv hb => hs v b hv (h v b hb)
theorem ext_ap {B B' : Bd} (hE : BExt B B') (h : EndB B) (hG : Gb B) (h' : EndB B') (hG' : Gb B') {t : Ty} (hg : gd t = true) : AP B' t = sb (thB B') (AP B t) := by
  rw [sol_ap (hE.sol (th_sol h' hG')) h hG hg, th_ap h' hG' hg]
theorem ext_done {B B' : Bd} (hE : BExt B B') (h : EndB B) (hG : Gb B) (h' : EndB B') (hG' : Gb B') {a b : Ty} (ha : gd a = true) (hb : gd b = true) (hd : AP B a = AP B b) : AP B' a = AP B' b := by
  rw [ext_ap hE h hG h' hG' ha, ext_ap hE h hG h' hG' hb, hd]
theorem ext_up {B B' : Bd} (hE : BExt B B') (h : EndB B) (hG : Gb B) (h' : EndB B') (hG' : Gb B') {x : Int} (hx : x ≠ 0) {a : Ty} (ha : gd a = true) (hu : Up B x a) : Up B' x a := by
  unfold Up
  rw [ext_ap hE h hG h' hG' ha, ext_ap hE h hG h' hG' (gd_mkv hx)]
  exact hu.sb

/-- Two types that are alike in a substitution are so at their heads. -/
theorem sb_LK {B : Bd} (h : EndB B) (hG : Gb B) {θ : Int → Ty} (hs : Sol θ B) {t : Ty} (hg : gd t = true) : sb θ (LK B t) = sb θ t := by
  have hl := LK_spec h hG hg
  rw [← sol_ap hs h hG hl.1, hl.2.1, sol_ap hs h hG hg]

structure UniS (B : Bd) (P : Pr) (xs ys : List Ty) (e : Int) (B' : Bd) (P' : Pr) : Prop where
  ends : EndB B'
  gb : Gb B'
  ext : BExt B B'
  ok : e = 0 → xs.map (AP B') = ys.map (AP B') ∧ (∀ θ, Sol θ B → xs.map (sb θ) = ys.map (sb θ) → Sol θ B') ∧ ∀ x y, P' x y = true → (x ≠ 0 ∧ y ≠ 0 ∧ Done B' x y) ∨ P x y = true
  bad : e ≠ 0 → ∀ θ, Sol θ B → xs.map (sb θ) ≠ ys.map (sb θ)

/-- What is kept in mind is so, or stands above. -/
def MemoI (B : Bd) (P : Pr) (xs : List Ty) : Prop := ∀ x y, P x y = true → x ≠ 0 ∧ y ≠ 0 ∧ (Done B x y ∨ ∀ a ∈ xs, Up B x a)

theorem memo_next {B B' : Bd} {P P' : Pr} {a b : Ty} {xs : List Ty} (hE : BExt B B') (h : EndB B) (hG : Gb B) (h' : EndB B') (hG' : Gb B') (hg : ∀ c ∈ xs, gd c = true) (hM : MemoI B P (a :: xs)) (hd : AP B' a = AP B' b) (hga : gd a = true) (hgb : gd b = true)
    (hP : ∀ x y, P' x y = true → (x ≠ 0 ∧ y ≠ 0 ∧ Done B' x y) ∨ addP P a b x y = true) : MemoI B' P' xs := by
  intro x y hp
  rcases hP x y hp with h1 | h1
  · exact ⟨h1.1, h1.2.1, .inl h1.2.2⟩
  · unfold addP at h1
    simp only [Bool.or_eq_true, Bool.and_eq_true, decide_eq_true_eq] at h1
    rcases h1 with h1 | ⟨⟨⟨k1, k2⟩, rfl⟩, rfl⟩
    · obtain ⟨z1, z2, z3⟩ := hM x y h1
      refine ⟨z1, z2, ?_⟩
      rcases z3 with z3 | z3
      · exact .inl (ext_done hE h hG h' hG' (gd_mkv z1) (gd_mkv z2) z3)
      · exact .inr fun c hc => ext_up hE h hG h' hG' z1 (hg c hc) (z3 c (by simp [hc]))
    · refine ⟨k1, k2, .inl ?_⟩
      unfold Done
      rw [← gd_var hga k1, ← gd_var hgb k2]
      exact hd

theorem uni_spec {B B' : Bd} {P P' : Pr} {xs ys : List Ty} {e : Int} (hu : UniL B P xs ys e B' P') : EndB B → Gb B → (∀ a ∈ xs, gd a = true) → (∀ b ∈ ys, gd b = true) → MemoI B P xs → UniS B P xs ys e B' P' := by
  induction hu with
  | nil => exact fun h hG _ _ _ => ⟨h, hG, fun v b q => q, fun _ => ⟨rfl, fun θ hs _ => hs, fun x y q => .inr q⟩, fun q => absurd rfl q⟩
  | @memo B P a b xs ys e B' P' hm _ ih =>
    intro h hG ha hb hM
    have hga := ha a (by simp)
    have hgb := hb b (by simp)
    have hd : AP B a = AP B b := by
      obtain ⟨z1, z2, z3⟩ := hM a.v b.v hm.2.2
      rcases z3 with z3 | z3
      · unfold Done at z3
        rw [← gd_var hga hm.1, ← gd_var hgb hm.2.1] at z3
        exact z3
      · have := z3 a (by simp)
        unfold Up at this
        rw [← gd_var hga hm.1] at this
        have := this.lt
        omega
    obtain ⟨i1, i2, i3, i4, i5⟩ := ih h hG (fun c hc => ha c (by simp [hc])) (fun c hc => hb c (by simp [hc])) (fun x y hp => by
      obtain ⟨z1, z2, z3⟩ := hM x y hp
      exact ⟨z1, z2, z3.imp (fun q => q) fun q c hc => q c (by simp [hc])⟩)
    have hd' := ext_done i3 h hG i1 i2 hga hgb hd
    refine ⟨i1, i2, i3, fun he => ?_, fun he θ hs q => ?_⟩
    · obtain ⟨j1, j2, j3⟩ := i4 he
      refine ⟨by rw [List.map_cons, List.map_cons, hd', j1], fun θ hs q => ?_, j3⟩
      simp only [List.map_cons, List.cons.injEq] at q
      exact j2 θ hs q.2
    · simp only [List.map_cons, List.cons.injEq] at q
      exact i5 he θ hs q.2
  | @same B P a b xs ys e B' P' hm hv hvv _ ih =>
    intro h hG ha hb hM
    have hga := ha a (by simp)
    have hgb := hb b (by simp)
    have la := LK_spec h hG hga
    have lb := LK_spec h hG hgb
    have hd : AP B a = AP B b := by
      rw [← la.2.1, ← lb.2.1, gd_var la.1 hv, gd_var lb.1 (by rw [← hvv]; exact hv), hvv]
    obtain ⟨i1, i2, i3, i4, i5⟩ := ih h hG (fun c hc => ha c (by simp [hc])) (fun c hc => hb c (by simp [hc])) (memo_next (fun v b q => q) h hG h hG (fun c hc => ha c (by simp [hc])) hM hd hga hgb fun x y q => .inr q)
    have hd' := ext_done i3 h hG i1 i2 hga hgb hd
    refine ⟨i1, i2, i3, fun he => ?_, fun he θ hs q => ?_⟩
    · obtain ⟨j1, j2, j3⟩ := i4 he
      refine ⟨by rw [List.map_cons, List.map_cons, hd', j1], fun θ hs q => ?_, fun x y q => ?_⟩
      · simp only [List.map_cons, List.cons.injEq] at q
        exact j2 θ hs q.2
      · rcases j3 x y q with w | w
        · exact .inl w
        · unfold addP at w
          simp only [Bool.or_eq_true, Bool.and_eq_true, decide_eq_true_eq] at w
          rcases w with w | ⟨⟨⟨k1, k2⟩, rfl⟩, rfl⟩
          · exact .inr w
          · refine .inl ⟨k1, k2, ?_⟩
            unfold Done
            rw [← gd_var hga k1, ← gd_var hgb k2]; exact hd'
    · simp only [List.map_cons, List.cons.injEq] at q
      exact i5 he θ hs q.2
  | @left B P a b xs ys e B' P' hm hv hvv ho _ ih =>
    intro h hG ha hb hM
    have hga := ha a (by simp)
    have hgb := hb b (by simp)
    have la := LK_spec h hG hga
    have lb := LK_spec h hG hgb
    have hx := la.2.2 hv
    have hE := ext_bind (c := LK B b) hx
    have h1 := h.bind hG hx lb.1 ho
    have hG1 := hG.bind (x := (LK B a).v) lb.1
    have hd : AP (bindB B (LK B a).v (LK B b)) a = AP (bindB B (LK B a).v (LK B b)) b := by
      have e1 := ext_done hE h hG h1 hG1 hga la.1 la.2.1.symm
      have e2 := ext_done hE h hG h1 hG1 hgb lb.1 lb.2.1.symm
      rw [e1, e2]
      exact AP_bound h1 hv (by unfold bindB; rw [if_pos rfl]) lb.1
    obtain ⟨i1, i2, i3, i4, i5⟩ := ih h1 hG1 (fun c hc => ha c (by simp [hc])) (fun c hc => hb c (by simp [hc])) (memo_next hE h hG h1 hG1 (fun c hc => ha c (by simp [hc])) hM hd hga hgb fun x y q => .inr q)
    have hd' := ext_done i3 h1 hG1 i1 i2 hga hgb hd
    have hsol : ∀ θ, Sol θ B → sb θ a = sb θ b → Sol θ (bindB B (LK B a).v (LK B b)) := fun θ hs q v c hv0 hc => by
      unfold bindB at hc
      split at hc
      · rename_i ev
        cases hc
        have e1 := sb_LK h hG hs hga
        rw [sb_var hv] at e1
        rw [ev, e1, q, sb_LK h hG hs hgb]
      · exact hs v c hv0 hc
    refine ⟨i1, i2, fun v c q => i3 v c (hE v c q), fun he => ?_, fun he θ hs q => ?_⟩
    · obtain ⟨j1, j2, j3⟩ := i4 he
      refine ⟨by rw [List.map_cons, List.map_cons, hd', j1], fun θ hs q => ?_, fun x y q => ?_⟩
      · simp only [List.map_cons, List.cons.injEq] at q
        exact j2 θ (hsol θ hs q.1) q.2
      · rcases j3 x y q with w | w
        · exact .inl w
        · unfold addP at w
          simp only [Bool.or_eq_true, Bool.and_eq_true, decide_eq_true_eq] at w
          rcases w with w | ⟨⟨⟨k1, k2⟩, rfl⟩, rfl⟩
          · exact .inr w
          · refine .inl ⟨k1, k2, ?_⟩
            unfold Done
            rw [← gd_var hga k1, ← gd_var hgb k2]; exact hd'
    · simp only [List.map_cons, List.cons.injEq] at q
      exact i5 he θ (hsol θ hs q.1) q.2
  | @leftE B P a b xs ys hm hv hvv ho =>
    intro h hG ha hb hM
    have hga := ha a (by simp)
    have hgb := hb b (by simp)
    have la := LK_spec h hG hga
    have lb := LK_spec h hG hgb
    refine ⟨h, hG, fun v c q => q, fun he => (by cases he), fun _ θ hs q => ?_⟩
    simp only [List.map_cons, List.cons.injEq] at q
    have hbv : (AP B (LK B b)).v = 0 := by
      by_cases z : (LK B b).v = 0
      · rw [AP_con h lb.1 z]; rfl
      · rw [AP_free lb.1 z (lb.2.2 z), vs_var z] at ho
        simp only [List.mem_singleton] at ho
        exact absurd ho hvv
    have h2 := vs_sub (θ := θ) hbv ho
    rw [sol_ap hs h hG lb.1, sb_LK h hG hs hgb, ← q.1, ← sb_LK h hG hs hga, sb_var hv] at h2
    omega
  | @right B P a b xs ys e B' P' hm hv hvv ho _ ih =>
    intro h hG ha hb hM
    have hga := ha a (by simp)
    have hgb := hb b (by simp)
    have la := LK_spec h hG hga
    have lb := LK_spec h hG hgb
    have hx := lb.2.2 hvv
    have hE := ext_bind (c := LK B a) hx
    have h1 := h.bind hG hx la.1 ho
    have hG1 := hG.bind (x := (LK B b).v) la.1
    have hd : AP (bindB B (LK B b).v (LK B a)) a = AP (bindB B (LK B b).v (LK B a)) b := by
      have e1 := ext_done hE h hG h1 hG1 hga la.1 la.2.1.symm
      have e2 := ext_done hE h hG h1 hG1 hgb lb.1 lb.2.1.symm
      rw [e1, e2]
      exact (AP_bound h1 hvv (by unfold bindB; rw [if_pos rfl]) la.1).symm
    obtain ⟨i1, i2, i3, i4, i5⟩ := ih h1 hG1 (fun c hc => ha c (by simp [hc])) (fun c hc => hb c (by simp [hc])) (memo_next hE h hG h1 hG1 (fun c hc => ha c (by simp [hc])) hM hd hga hgb fun x y q => .inr q)
    have hd' := ext_done i3 h1 hG1 i1 i2 hga hgb hd
    have hsol : ∀ θ, Sol θ B → sb θ a = sb θ b → Sol θ (bindB B (LK B b).v (LK B a)) := fun θ hs q v c hv0 hc => by
      unfold bindB at hc
      split at hc
      · rename_i ev
        cases hc
        have e1 := sb_LK h hG hs hgb
        rw [sb_var hvv] at e1
        rw [ev, e1, ← q, sb_LK h hG hs hga]
      · exact hs v c hv0 hc
    refine ⟨i1, i2, fun v c q => i3 v c (hE v c q), fun he => ?_, fun he θ hs q => ?_⟩
    · obtain ⟨j1, j2, j3⟩ := i4 he
      refine ⟨by rw [List.map_cons, List.map_cons, hd', j1], fun θ hs q => ?_, fun x y q => ?_⟩
      · simp only [List.map_cons, List.cons.injEq] at q
        exact j2 θ (hsol θ hs q.1) q.2
      · rcases j3 x y q with w | w
        · exact .inl w
        · unfold addP at w
          simp only [Bool.or_eq_true, Bool.and_eq_true, decide_eq_true_eq] at w
          rcases w with w | ⟨⟨⟨k1, k2⟩, rfl⟩, rfl⟩
          · exact .inr w
          · refine .inl ⟨k1, k2, ?_⟩
            unfold Done
            rw [← gd_var hga k1, ← gd_var hgb k2]; exact hd'
    · simp only [List.map_cons, List.cons.injEq] at q
      exact i5 he θ (hsol θ hs q.1) q.2
  | @rightE B P a b xs ys hm hv hvv ho =>
    intro h hG ha hb hM
    have hga := ha a (by simp)
    have hgb := hb b (by simp)
    have la := LK_spec h hG hga
    have lb := LK_spec h hG hgb
    refine ⟨h, hG, fun v c q => q, fun he => (by cases he), fun _ θ hs q => ?_⟩
    simp only [List.map_cons, List.cons.injEq] at q
    have hbv : (AP B (LK B a)).v = 0 := by rw [AP_con h la.1 hv]; rfl
    have h2 := vs_sub (θ := θ) hbv ho
    rw [sol_ap hs h hG la.1, sb_LK h hG hs hga, q.1, ← sb_LK h hG hs hgb, sb_var hvv] at h2
    omega
  | @type B P a b xs ys hm hv hvv ho =>
    intro h hG ha hb hM
    have hga := ha a (by simp)
    have hgb := hb b (by simp)
    refine ⟨h, hG, fun v c q => q, fun he => (by cases he), fun _ θ hs q => ho ?_⟩
    simp only [List.map_cons, List.cons.injEq] at q
    have q1 := q.1
    rw [← sb_LK h hG hs hga, ← sb_LK h hG hs hgb, sb_con hv, sb_con hvv] at q1
    injection q1 with _ q2 q3
    exact ⟨q2, by have := congrArg List.length q3; simpa using this⟩
  | @con B P a b xs ys B1 P1 e B' P' hm hv hvv hn hl _ _ ih1 ih2 =>
    intro h hG ha hb hM
    have hga := ha a (by simp)
    have hgb := hb b (by simp)
    have la := LK_spec h hG hga
    have lb := LK_spec h hG hgb
    have hApa : ∀ c ∈ (LK B a).args, Sub (AP B c) (AP B a) := fun c hc => by
      rw [← la.2.1, AP_con h la.1 hv]
      exact .arg rfl (List.mem_map.2 ⟨c, hc, rfl⟩)
    obtain ⟨i1, i2, i3, i4, i5⟩ := ih1 h hG (gd_con la.1 hv) (gd_con lb.1 hvv) (fun x y hp => by
      unfold addP at hp
      simp only [Bool.or_eq_true, Bool.and_eq_true, decide_eq_true_eq] at hp
      rcases hp with hp | ⟨⟨⟨k1, k2⟩, rfl⟩, rfl⟩
      · obtain ⟨z1, z2, z3⟩ := hM x y hp
        exact ⟨z1, z2, z3.imp (fun q => q) fun q c hc => (hApa c hc).trans (q a (by simp))⟩
      · refine ⟨k1, k2, .inr fun c hc => ?_⟩
        unfold Up
        rw [← gd_var hga k1]
        exact hApa c hc)
    obtain ⟨j1, j2, j3⟩ := i4 rfl
    have hd : AP B1 a = AP B1 b := by
      rw [ext_done i3 h hG i1 i2 hga la.1 la.2.1.symm, ext_done i3 h hG i1 i2 hgb lb.1 lb.2.1.symm, AP_con i1 la.1 hv, AP_con i1 lb.1 hvv, hn, j1]
    have hM2 : MemoI B1 P1 xs := memo_next i3 h hG i1 i2 (fun c hc => ha c (by simp [hc])) hM hd hga hgb fun x y q => by
      exact j3 x y q
    obtain ⟨m1, m2, m3, m4, m5⟩ := ih2 i1 i2 (fun c hc => ha c (by simp [hc])) (fun c hc => hb c (by simp [hc])) hM2
    have hd' := ext_done m3 i1 i2 m1 m2 hga hgb hd
    have hsol : ∀ θ, Sol θ B → sb θ a = sb θ b → Sol θ B1 := fun θ hs q => j2 θ hs (by
      rw [← sb_LK h hG hs hga, ← sb_LK h hG hs hgb, sb_con hv, sb_con hvv] at q
      injection q)
    refine ⟨m1, m2, fun v c q => m3 v c (i3 v c q), fun he => ?_, fun he θ hs q => ?_⟩
    · obtain ⟨n1, n2, n3⟩ := m4 he
      refine ⟨by rw [List.map_cons, List.map_cons, hd', n1], fun θ hs q => ?_, fun x y q => ?_⟩
      · simp only [List.map_cons, List.cons.injEq] at q
        exact n2 θ (hsol θ hs q.1) q.2
      · rcases n3 x y q with w | w
        · exact .inl w
        · rcases j3 x y w with w | w
          · exact .inl ⟨w.1, w.2.1, ext_done m3 i1 i2 m1 m2 (gd_mkv w.1) (gd_mkv w.2.1) w.2.2⟩
          · unfold addP at w
            simp only [Bool.or_eq_true, Bool.and_eq_true, decide_eq_true_eq] at w
            rcases w with w | ⟨⟨⟨k1, k2⟩, rfl⟩, rfl⟩
            · exact .inr w
            · refine .inl ⟨k1, k2, ?_⟩
              unfold Done
              rw [← gd_var hga k1, ← gd_var hgb k2]; exact hd'
    · simp only [List.map_cons, List.cons.injEq] at q
      exact m5 he θ (hsol θ hs q.1) q.2
  | @conE B P a b xs ys e B1 P1 hm hv hvv hn hl _ he0 ih1 =>
    intro h hG ha hb hM
    have hga := ha a (by simp)
    have hgb := hb b (by simp)
    have la := LK_spec h hG hga
    have lb := LK_spec h hG hgb
    have hApa : ∀ c ∈ (LK B a).args, Sub (AP B c) (AP B a) := fun c hc => by
      rw [← la.2.1, AP_con h la.1 hv]
      exact .arg rfl (List.mem_map.2 ⟨c, hc, rfl⟩)
    obtain ⟨i1, i2, i3, i4, i5⟩ := ih1 h hG (gd_con la.1 hv) (gd_con lb.1 hvv) (fun x y hp => by
      unfold addP at hp
      simp only [Bool.or_eq_true, Bool.and_eq_true, decide_eq_true_eq] at hp
      rcases hp with hp | ⟨⟨⟨k1, k2⟩, rfl⟩, rfl⟩
      · obtain ⟨z1, z2, z3⟩ := hM x y hp
        exact ⟨z1, z2, z3.imp (fun q => q) fun q c hc => (hApa c hc).trans (q a (by simp))⟩
      · refine ⟨k1, k2, .inr fun c hc => ?_⟩
        unfold Up
        rw [← gd_var hga k1]
        exact hApa c hc)
    refine ⟨i1, i2, i3, fun q => absurd q he0, fun _ θ hs q => ?_⟩
    simp only [List.map_cons, List.cons.injEq] at q
    have q1 := q.1
    rw [← sb_LK h hG hs hga, ← sb_LK h hG hs hgb, sb_con hv, sb_con hvv] at q1
    injection q1 with _ _ q3
    exact i5 he0 θ hs q3

end Go.AL
set_option linter.unusedSimpArgs false
set_option linter.unusedVariables false
namespace Go.AL

theorem uni_det {B B' : Bd} {P P' : Pr} {xs ys : List Ty} {e : Int} (h : UniL B P xs ys e B' P') : ∀ {e2 : Int} {B2 : Bd} {P2 : Pr}, UniL B P xs ys e2 B2 P2 → e = e2 ∧ B' = B2 ∧ P' = P2 := by
  induction h with
  | nil => intro e2 B2 P2 h2; cases h2; exact ⟨rfl, rfl, rfl⟩
  | memo hm _ ih =>
    intro e2 B2 P2 h2
    cases h2 with
    | memo _ k => exact ih k
    | _ => exact absurd hm ‹_›
  | same hm hv hvv _ ih =>
    intro e2 B2 P2 h2
    cases h2 with
    | memo k _ => exact absurd k hm
    | same _ _ _ k => exact ih k
    | left _ _ k _ _ => exact absurd hvv k
    | leftE _ _ k _ => exact absurd hvv k
    | _ => first | exact absurd ‹(LK _ _).v = 0› hv | (exfalso; simp_all)
  | left hm hv hvv ho _ ih =>
    intro e2 B2 P2 h2
    cases h2 with
    | memo k _ => exact absurd k hm
    | same _ _ k _ => exact absurd k hvv
    | left _ _ _ _ k => exact ih k
    | leftE _ _ _ k => exact absurd k ho
    | _ => exfalso; simp_all
  | leftE hm hv hvv ho =>
    intro e2 B2 P2 h2
    cases h2 with
    | memo k _ => exact absurd k hm
    | same _ _ k _ => exact absurd k hvv
    | left _ _ _ k _ => exact absurd ho k
    | leftE _ _ _ k => exact ⟨rfl, rfl, rfl⟩
    | _ => exfalso; simp_all
  | right hm hv hvv ho _ ih =>
    intro e2 B2 P2 h2
    cases h2 with
    | memo k _ => exact absurd k hm
    | right _ _ _ _ k => exact ih k
    | rightE _ _ _ k => exact absurd k ho
    | _ => exfalso; simp_all
  | rightE hm hv hvv ho =>
    intro e2 B2 P2 h2
    cases h2 with
    | memo k _ => exact absurd k hm
    | right _ _ _ k _ => exact absurd ho k
    | rightE _ _ _ _ => exact ⟨rfl, rfl, rfl⟩
    | _ => exfalso; simp_all
  | type hm hv hvv ho =>
    intro e2 B2 P2 h2
    cases h2 with
    | memo k _ => exact absurd k hm
    | type _ _ _ _ => exact ⟨rfl, rfl, rfl⟩
    | con _ _ _ k1 k2 _ _ => exact absurd ⟨k1, k2⟩ ho
    | conE _ _ _ k1 k2 _ _ => exact absurd ⟨k1, k2⟩ ho
    | _ => exfalso; simp_all
  | con hm hv hvv hn hl _ _ ih1 ih2 =>
    intro e2 B2 P2 h2
    cases h2 with
    | memo k _ => exact absurd k hm
    | type _ _ _ k => exact absurd ⟨hn, hl⟩ k
    | con _ _ _ _ _ k1 k2 =>
      obtain ⟨_, rfl, rfl⟩ := ih1 k1
      exact ih2 k2
    | conE _ _ _ _ _ k1 k2 => exact absurd (ih1 k1).1.symm k2
    | _ => exfalso; simp_all
  | conE hm hv hvv hn hl _ he ih1 =>
    intro e2 B2 P2 h2
    cases h2 with
    | memo k _ => exact absurd k hm
    | type _ _ _ k => exact absurd ⟨hn, hl⟩ k
    | con _ _ _ _ _ k1 k2 => exact absurd (ih1 k1).1 he
    | conE _ _ _ _ _ k1 k2 => exact ih1 k1
    | _ => exfalso; simp_all

end Go.AL
set_option linter.unusedSimpArgs false
set_option linter.unusedVariables false
namespace Go.AL

theorem uni_app0 {B B1 : Bd} {P P1 : Pr} {xs ys : List Ty} {z : Int} (h : UniL B P xs ys z B1 P1) : z = 0 → ∀ {xs' ys' : List Ty} {e : Int} {B2 : Bd} {P2 : Pr}, UniL B1 P1 xs' ys' e B2 P2 → UniL B P (xs ++ xs') (ys ++ ys') e B2 P2 := by
  induction h with
  | nil => intro _ _ _ _ _ _ h2; exact h2
  | memo h1 _ ih => intro hz _ _ _ _ _ h2; exact .memo h1 (ih hz h2)
  | same h1 h2 h3 _ ih => intro hz _ _ _ _ _ k; exact .same h1 h2 h3 (ih hz k)
  | left h1 h2 h3 h4 _ ih => intro hz _ _ _ _ _ k; exact .left h1 h2 h3 h4 (ih hz k)
  | leftE => intro hz; exact absurd hz (by decide)
  | right h1 h2 h3 h4 _ ih => intro hz _ _ _ _ _ k; exact .right h1 h2 h3 h4 (ih hz k)
  | rightE => intro hz; exact absurd hz (by decide)
  | type => intro hz; exact absurd hz (by decide)
  | con h1 h2 h3 h4 h5 h6 _ _ ih => intro hz _ _ _ _ _ k; exact .con h1 h2 h3 h4 h5 h6 (ih hz k)
  | conE _ _ _ _ _ _ hne => intro hz; exact absurd hz hne

theorem uni_err {B B1 : Bd} {P P1 : Pr} {xs ys : List Ty} {e : Int} (h : UniL B P xs ys e B1 P1) : e ≠ 0 → ∀ (r r' : List Ty), UniL B P (xs ++ r) (ys ++ r') e B1 P1 := by
  induction h with
  | nil => intro hz; exact absurd rfl hz
  | memo h1 _ ih => intro hz r r'; exact .memo h1 (ih hz r r')
  | same h1 h2 h3 _ ih => intro hz r r'; exact .same h1 h2 h3 (ih hz r r')
  | left h1 h2 h3 h4 _ ih => intro hz r r'; exact .left h1 h2 h3 h4 (ih hz r r')
  | leftE h1 h2 h3 h4 => intro _ _ _; exact .leftE h1 h2 h3 h4
  | right h1 h2 h3 h4 _ ih => intro hz r r'; exact .right h1 h2 h3 h4 (ih hz r r')
  | rightE h1 h2 h3 h4 => intro _ _ _; exact .rightE h1 h2 h3 h4
  | type h1 h2 h3 h4 => intro _ _ _; exact .type h1 h2 h3 h4
  | con h1 h2 h3 h4 h5 h6 _ _ ih => intro hz r r'; exact .con h1 h2 h3 h4 h5 h6 (ih hz r r')
  | conE h1 h2 h3 h4 h5 h6 hne => intro _ _ _; exact .conE h1 h2 h3 h4 h5 h6 hne

/-- A variable of a state of so many. -/
def ownP (vs : Int) : Int → Bool := fun n => decide (1 ≤ n) && decide (n ≤ vs)
def Gp (vs : Int) (B : Bd) : Prop := ∀ v b, B v = some b → goodB (ownP vs) b = true
theorem Gp.gb {vs : Int} {B : Bd} (h : Gp vs B) : Gb B := fun v b hb => good_gd (h v b hb)
theorem LK_gp {vs : Int} {B : Bd} (h : EndB B) (hG : Gp vs B) {t : Ty} (hg : goodB (ownP vs) t = true) : goodB (ownP vs) (LK B t) = true := by
  obtain ⟨n, he⟩ := h.all (good_gd hg)
  induction n generalizing t with
  | zero => exact he.elim
  | succ n ih =>
    by_cases hv : t.v = 0
    · rw [LK_con h (good_gd hg) hv]; exact hg
    · cases hb : B t.v with
      | none => rw [LK_free hv hb]; exact hg
      | some b =>
        rw [en_bound hv hb] at he
        rw [LK_bound h hv hb (good_gd (hG _ _ hb))]
        exact ih (hG _ _ hb) he
theorem gp_args {p : Int → Bool} {t : Ty} (h : goodB p t = true) (hv : t.v = 0) : ∀ a ∈ t.args, goodB p a = true := by
  rw [goodB_eq, if_pos hv, Bool.and_eq_true] at h
  exact fun a ha => good_mem ha h.2
theorem gp_var {vs : Int} {t : Ty} (h : goodB (ownP vs) t = true) (hv : t.v ≠ 0) : 1 ≤ t.v ∧ t.v ≤ vs := by
  rw [goodB_eq, if_neg hv, Bool.and_eq_true] at h
  have := h.2
  unfold ownP at this
  simpa using this

/-- How many are yet unbound. -/
def unb (vs : Int) (B : Bd) : Nat := ((List.range vs.toNat).filter fun (i : Nat) => (B ((i : Int) + 1)).isNone).length
theorem unb_bind {vs : Int} {B : Bd} {x : Int} (hx : B x = none) (h1 : 1 ≤ x ∧ x ≤ vs) (c : Ty) : unb vs (bindB B x c) < unb vs B := by
  unfold unb
  have key : ∀ l : List Nat, l.Nodup → (x.toNat - 1) ∈ l → (l.filter fun (i : Nat) => (bindB B x c ((i : Int) + 1)).isNone).length < (l.filter fun (i : Nat) => (B ((i : Int) + 1)).isNone).length := by
    have le : ∀ l : List Nat, (l.filter fun (i : Nat) => (bindB B x c ((i : Int) + 1)).isNone).length ≤ (l.filter fun (i : Nat) => (B ((i : Int) + 1)).isNone).length := by
      intro l
      induction l with
      | nil => exact Nat.le_refl _
      | cons a r ih =>
        simp only [List.filter_cons]
        have h2 : (bindB B x c ((a : Int) + 1)).isNone = true → (B ((a : Int) + 1)).isNone = true := by
          unfold bindB
          split
          · intro h; cases h
          · exact fun h => h
        cases h3 : (bindB B x c ((a : Int) + 1)).isNone with
        | true =>
          rw [h2 h3]
          simp
          exact ih
        | false =>
          cases (B ((a : Int) + 1)).isNone <;> simp <;> omega
    intro l
    induction l with
    | nil => intro _ h; cases h
    | cons a r ih =>
      intro hn hm
      rw [List.nodup_cons] at hn
      simp only [List.filter_cons]
      by_cases e : (a : Int) + 1 = x
      · have h2 : (bindB B x c ((a : Int) + 1)).isNone = false := by unfold bindB; rw [if_pos e]; rfl
        have h3 : (B ((a : Int) + 1)).isNone = true := by rw [e, hx]; rfl
        rw [h2, h3]
        have := le r
        simp
        omega
      · have h2 : (bindB B x c ((a : Int) + 1)).isNone = (B ((a : Int) + 1)).isNone := by unfold bindB; rw [if_neg e]
        rw [h2]
        have := ih hn.2 (by
          rcases List.mem_cons.1 hm with h | h
          · omega
          · exact h)
        split <;> simp <;> omega
  exact key (List.range vs.toNat) List.nodup_range (by rw [List.mem_range]; omega)

end Go.AL
set_option linter.unusedSimpArgs false
set_option linter.unusedVariables false
namespace Go.AL

mutual
def nmB : Ty → Bool
  | .mk _ n l => decide (n.size ≤ 8) && nmL l
def nmL : List Ty → Bool
  | [] => true
  | t :: r => nmB t && nmL r
end
theorem nmB_eq (t : Ty) : nmB t = (decide (t.name.size ≤ 8) && nmL t.args) := by cases t; rfl
theorem nm_mem {t : Ty} : ∀ {l : List Ty}, t ∈ l → nmL l = true → nmB t = true
  | x :: r, h, hg => by
    rw [nmL, Bool.and_eq_true] at hg
    rcases List.mem_cons.1 h with rfl | h
    · exact hg.1
    · exact nm_mem h hg.2
theorem nm_args {t : Ty} (h : nmB t = true) : ∀ a ∈ t.args, nmB a = true := by
  rw [nmB_eq, Bool.and_eq_true] at h
  exact fun a ha => nm_mem ha h.2
theorem nmL_of {l : List Ty} (h : ∀ a ∈ l, nmB a = true) : nmL l = true := by
  induction l with
  | nil => rfl
  | cons a r ih => rw [nmL, h a (by simp), ih fun b hb => h b (by simp [hb])]; rfl
theorem nmL_app (a b : List Ty) : nmL (a ++ b) = (nmL a && nmL b) := by
  induction a with
  | nil => simp [nmL]
  | cons x r ih => simp only [List.cons_append, nmL, ih, Bool.and_assoc]

/-- Bindings of types with short names. -/
def NG (B : Bd) : Prop := ∀ v b, B v = some b → nmB b = true
theorem LK_nm {B : Bd} (h : EndB B) (hG : Gb B) (hN : NG B) {t : Ty} (hg : gd t = true) (hn : nmB t = true) : nmB (LK B t) = true := by
  obtain ⟨n, he⟩ := h.all hg
  induction n generalizing t with
  | zero => exact he.elim
  | succ n ih =>
    by_cases hv : t.v = 0
    · rw [LK_con h hg hv]; exact hn
    · cases hb : B t.v with
      | none => rw [LK_free hv hb]; exact hn
      | some b =>
        rw [en_bound hv hb] at he
        rw [LK_bound h hv hb (hG _ _ hb)]
        exact ih (hG _ _ hb) (hN _ _ hb) he
theorem AP_nm {B : Bd} (h : EndB B) (hG : Gb B) (hN : NG B) {t : Ty} (hg : gd t = true) (hn : nmB t = true) : nmB (AP B t) = true := by
  obtain ⟨n, he⟩ := h.all hg
  induction n generalizing t with
  | zero => exact he.elim
  | succ n ih =>
    by_cases hv : t.v = 0
    · rw [en_con hv] at he
      rw [AP_con h hg hv, nmB_eq]
      have h1 := hn
      rw [nmB_eq, Bool.and_eq_true] at h1
      have : nmL (t.args.map (AP B)) = true := nmL_of fun a ha => by
        obtain ⟨c, hc, rfl⟩ := List.mem_map.1 ha
        exact ih (gd_con hg hv c hc) (nm_args hn c hc) (he c hc)
      simp only [Ty.name, Ty.args]
      simp only [Ty.name] at h1
      rw [Bool.and_eq_true]
      exact ⟨h1.1, this⟩
    · cases hb : B t.v with
      | none => rw [AP_free hg hv hb]; exact hn
      | some b =>
        rw [en_bound hv hb] at he
        rw [AP_bound h hv hb (hG _ _ hb)]
        exact ih (hG _ _ hb) (hN _ _ hb) he

/-! How long a written form may be. -/
mutual
def tz : Ty → Nat
  | .mk _ n l => n.size + 4 + tzL l
def tzL : List Ty → Nat
  | [] => 0
  | t :: r => tz t + tzL r
end
theorem tz_eq (t : Ty) : tz t = t.name.size + 4 + tzL t.args := by cases t; rfl
theorem tz_mem {t : Ty} : ∀ {l : List Ty}, t ∈ l → tz t ≤ tzL l
  | x :: r, h => by
    rcases List.mem_cons.1 h with rfl | h
    · simp only [tzL]; omega
    · have := tz_mem h; simp only [tzL]; omega
mutual
theorem tz_nm : ∀ t : Ty, nmB t = true → tz t ≤ 12 * nd t
  | .mk v n l, h => by
    rw [nmB, Bool.and_eq_true, decide_eq_true_eq] at h
    have := tzL_nm l h.2
    rw [tz, nd]
    omega
theorem tzL_nm : ∀ l : List Ty, nmL l = true → tzL l ≤ 12 * ndL l
  | [], _ => by simp [tzL]
  | t :: r, h => by
    rw [nmL, Bool.and_eq_true] at h
    have := tz_nm t h.1
    have := tzL_nm r h.2
    rw [tzL, ndL]
    omega
end

end Go.AL
