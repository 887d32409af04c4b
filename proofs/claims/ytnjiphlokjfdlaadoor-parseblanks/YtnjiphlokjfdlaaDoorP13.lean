/- The lexer as a relation; what stands behind a token does not matter, where a line ends there. -/
import Derived.Test.YtnjiphlokjfdlaaDoorP4
import Derived.Test.YtnjiphlokjfdlaaDoorM4
set_option linter.unusedSimpArgs false
set_option linter.unusedVariables false
namespace Go.AL
open Go.Proofs (tokensL_end tokensL_step)
inductive Lx : Tx → Nat → List Tk → Prop where
  | nil {s : Tx} {k : Nat} (h : s.drop (skipN false s) = []) : Lx s k [⟨0, [], 0, ((k + skipN false s : Nat) : Int)⟩]
  | cons {s r : Tx} {c : UInt8} {k n : Nat} {t : Tk} {T : List Tk} (h : s.drop (skipN false s) = c :: r) (ht : tokF (c :: r) ((k + skipN false s : Nat) : Int) = .ok (t, n)) (hr : Lx ((c :: r).drop n) (k + skipN false s + n) T) : Lx s k (t :: T)
theorem tok_ok {c : UInt8} {r : Tx} {p : Int} {t : Tk} {n : Nat} (h : tokF (c :: r) p = .ok (t, n)) : t.pos = p ∧ 1 ≤ n ∧ n ≤ (c :: r).length ∧ t.kind ≠ 0 := by
  generalize hR : nextR c (c :: r) p = R
  obtain ⟨g, e, t', n'⟩ := R
  obtain ⟨h1, h2, h3⟩ := tok_next hR
  rw [h1] at h
  by_cases he : e = 0
  · rw [if_pos he] at h; cases h
    exact ⟨h2, h3 he⟩
  · rw [if_neg he] at h; cases h
theorem lx_of : ∀ (m : Nat) (s : Tx) (k : Nat) (out T : List Tk), tokensL m s k out = .ok T → ∃ Ts, T = out ++ Ts ∧ Lx s k Ts
  | 0, s, k, out, T, h => by cases h
  | m + 1, s, k, out, T, h => by
    cases hd : s.drop (skipN false s) with
    | nil => rw [tokensL_end hd] at h; cases h; exact ⟨_, rfl, .nil hd⟩
    | cons c r =>
      rw [tokensL_step hd] at h
      cases ht : tokF (c :: r) ((k + skipN false s : Nat) : Int) with
      | error e => rw [ht] at h; cases h
      | ok y =>
        obtain ⟨t, n⟩ := y
        rw [ht] at h
        obtain ⟨Ts, h1, h2⟩ := lx_of m _ _ _ _ h
        exact ⟨t :: Ts, by rw [h1]; simp, .cons hd ht h2⟩
theorem of_lx {s : Tx} {k : Nat} {Ts : List Tk} (h : Lx s k Ts) : ∀ (m : Nat) (out : List Tk), s.length < m → tokensL m s k out = .ok (out ++ Ts) := by
  induction h with
  | nil hd =>
    intro m out hm
    cases m with
    | zero => omega
    | succ m => exact tokensL_end hd
  | @cons s r c k n t T hd ht _ ih =>
    intro m out hm
    cases m with
    | zero => omega
    | succ m =>
      rw [tokensL_step hd, ht]
      have hl := congrArg List.length hd
      simp only [List.length_drop, List.length_cons] at hl
      have hn := (tok_ok ht).2.1
      show tokensL m _ _ _ = _
      rw [ih m (out ++ [t]) (by simp only [List.length_drop, List.length_cons]; omega)]
      simp
theorem lexF_lx {s : Tx} {T : List Tk} (h : lexF s = .ok T) : Lx s 0 T ∧ s.length ≤ 2000 := by
  unfold lexF at h
  split at h
  · cases h
  · obtain ⟨Ts, h1, h2⟩ := lx_of _ _ _ _ _ h
    rw [List.nil_append] at h1
    subst h1; exact ⟨h2, by omega⟩
theorem lx_lexF {s : Tx} {T : List Tk} (h : Lx s 0 T) (hl : s.length ≤ 2000) : lexF s = .ok T := by
  unfold lexF
  rw [if_neg (by omega)]
  exact of_lx h _ [] (by omega)
/-- Tokens: where they stand, and that the end is the last one. -/
theorem lx_tok {s : Tx} {k : Nat} {T : List Tk} (h : Lx s k T) : TOK T ∧ (∀ (i : Nat) (t : Tk), T[i]? = some t → t.kind = 0 → i + 1 = T.length) ∧ (∀ (i : Nat) (t : Tk), T[i]? = some t → (k : Int) ≤ t.pos ∧ t.pos ≤ ((k + s.length : Nat) : Int)) ∧ T.length ≤ s.length + 1 := by
  induction h with
  | @nil s k hd =>
    have hsk := skip_le false s
    refine ⟨⟨by simp, fun i t h hk => ?_, fun i j a b hij ha hb => ?_⟩, fun i t h _ => ?_, fun i t h => ?_, by simp⟩
    · cases i with
      | zero => simp at h; rw [← h] at hk; exact absurd rfl hk
      | succ i => simp at h
    · cases i with
      | zero =>
        cases j with
        | zero => simp at ha hb; rw [← ha, ← hb]; exact Int.le_refl _
        | succ j => simp at hb
      | succ i => simp at ha
    · cases i with
      | zero => rfl
      | succ i => simp at h
    · cases i with
      | zero => simp at h; rw [← h]; simp only; omega
      | succ i => simp at h
  | @cons s r c k n t T hd ht _ ih =>
    obtain ⟨i1, i2, i3, i4⟩ := ih
    obtain ⟨tp, tn, tl, tk⟩ := tok_ok ht
    have hl := congrArg List.length hd
    have hsk := skip_le false s
    simp only [List.length_drop, List.length_cons] at hl tl i3 i4
    refine ⟨⟨by simp, fun i u h hk => ?_, fun i j a b hij ha hb => ?_⟩, fun i u h hk => ?_, fun i u h => ?_, by simp only [List.length_cons]; omega⟩
    · cases i with
      | zero => have := i1.pos; simp; omega
      | succ i => have := i1.last i u (by simpa using h) hk; simp; omega
    · cases i with
      | zero =>
        simp only [List.getElem?_cons_zero, Option.some.injEq] at ha
        cases j with
        | zero => simp only [List.getElem?_cons_zero, Option.some.injEq] at hb; rw [← ha, ← hb]; exact Int.le_refl _
        | succ j =>
          have := (i3 j b (by simpa using hb)).1
          rw [← ha, tp]; omega
      | succ i =>
        cases j with
        | zero => omega
        | succ j => exact i1.sorted i j a b (by omega) (by simpa using ha) (by simpa using hb)
    · cases i with
      | zero => simp at h; rw [← h] at hk; exact absurd hk tk
      | succ i => have := i2 i u (by simpa using h) hk; simp; omega
    · cases i with
      | zero => simp at h; rw [← h, tp]; omega
      | succ i => have := i3 i u (by simpa using h); omega
/-! What stands behind. -/
theorem span_app {p : UInt8 → Bool} (h10 : p 10 = false) {z : Tx} : ∀ w : Tx, spanN p (w ++ 10 :: z) = spanN p w
  | [] => by rw [List.nil_append, spanN_f h10]; rfl
  | c :: w => by
    rw [List.cons_append]
    cases hc : p c with
    | true => rw [spanN_t hc, spanN_t hc, span_app h10 w]
    | false => rw [spanN_f hc, spanN_f hc]
theorem sk_t (c : UInt8) (r : Tx) : skipN true (c :: r) = if c = 10 then skipN false r + 1 else skipN true r + 1 := rfl
theorem sk_f (c : UInt8) (r : Tx) : skipN false (c :: r) = if c = 32 ∨ c = 9 ∨ c = 10 then skipN false r + 1 else if c = 35 then skipN true r + 1 else 0 := rfl
theorem skip_app {z : Tx} : ∀ (b : Bool) (w : Tx), skipN b (w ++ 10 :: z) = if skipN b w < w.length then skipN b w else w.length + 1 + skipN false z
  | b, [] => by
    cases b
    · show skipN false (10 :: z) = _
      rw [skip_blank (.inr (.inr rfl))]
      simp [skipN]; omega
    · show skipN true (10 :: z) = _
      simp [skipN]; omega
  | true, c :: w => by
    rw [List.cons_append, sk_t, sk_t]
    by_cases hc : c = 10
    · rw [if_pos hc, if_pos hc, skip_app false w]
      simp only [List.length_cons]
      split <;> split <;> omega
    · rw [if_neg hc, if_neg hc, skip_app true w]
      simp only [List.length_cons]
      split <;> split <;> omega
  | false, c :: w => by
    rw [List.cons_append, sk_f, sk_f]
    by_cases hc : c = 32 ∨ c = 9 ∨ c = 10
    · rw [if_pos hc, if_pos hc, skip_app false w]
      simp only [List.length_cons]
      split <;> split <;> omega
    · rw [if_neg hc, if_neg hc]
      by_cases h2 : c = 35
      · rw [if_pos h2, if_pos h2, skip_app true w]
        simp only [List.length_cons]
        split <;> split <;> omega
      · rw [if_neg h2, if_neg h2]; simp
theorem esc_app {r z : Tx} {x : UInt8} {n : Nat} (h : escF r = .ok (x, n)) : escF (r ++ z) = .ok (x, n) := by
  cases r with
  | nil => cases h
  | cons c r =>
    rw [List.cons_append]
    unfold escF at h ⊢
    dsimp only at h ⊢
    split
    · rename_i c1; rw [if_pos c1] at h; exact h
    rename_i c1; rw [if_neg c1] at h
    split
    · rename_i c2; rw [if_pos c2] at h; exact h
    rename_i c2; rw [if_neg c2] at h
    split
    · rename_i c3; rw [if_pos c3] at h; exact h
    rename_i c3; rw [if_neg c3] at h
    split
    · rename_i c4; rw [if_pos c4] at h; exact h
    rename_i c4; rw [if_neg c4] at h
    cases r with
    | nil => cases h
    | cons a r =>
      rw [List.cons_append]
      dsimp only at h ⊢
      cases ha : hexF a with
      | none => rw [ha] at h; cases h
      | some x1 =>
        rw [ha] at h
        dsimp only at h ⊢
        cases r with
        | nil => cases h
        | cons b r =>
          rw [List.cons_append]
          dsimp only at h ⊢
          exact h
theorem unqL_app {z : Tx} : ∀ (m m' : Nat) (r b : Tx) (k : Nat) (x : Tx) (n : Nat), unqL m r b k = .ok (x, n) → m ≤ m' → unqL m' (r ++ z) b k = .ok (x, n)
  | 0, m', r, b, k, x, n, h, hm => by cases h
  | m + 1, 0, r, b, k, x, n, h, hm => by omega
  | m + 1, m' + 1, [], b, k, x, n, h, hm => by cases h
  | m + 1, m' + 1, c :: r, b, k, x, n, h, hm => by
    rw [List.cons_append]
    rw [Go.Proofs.unq_step] at h ⊢
    split
    · rename_i c1; rw [if_pos c1] at h; exact h
    rename_i c1; rw [if_neg c1] at h
    split
    · rename_i c2; rw [if_pos c2] at h; exact h
    rename_i c2; rw [if_neg c2] at h
    split
    · rename_i c3; rw [if_pos c3] at h
      cases he : escF r with
      | error e => rw [he] at h; cases h
      | ok y =>
        obtain ⟨y, q⟩ := y
        rw [he] at h
        rw [esc_app he]
        have hq := (esc_ok he).2
        show unqL m' ((r ++ z).drop q) _ _ = _
        rw [List.drop_append_of_le_length hq]
        exact unqL_app m m' _ _ _ _ _ h (by omega)
    rename_i c3; rw [if_neg c3] at h
    split
    · rename_i c4; rw [if_pos c4] at h
      exact unqL_app m m' _ _ _ _ _ h (by omega)
    · rename_i c4; rw [if_neg c4] at h; cases h
theorem unqF_app {z r : Tx} {x : Tx} {n : Nat} (h : unqF r = .ok (x, n)) : unqF (r ++ z) = .ok (x, n) := by
  cases r with
  | nil => cases h
  | cons c r =>
    rw [List.cons_append]
    unfold unqF at h ⊢
    dsimp only at h ⊢
    split
    · rename_i c1; rw [if_pos c1] at h
      exact unqL_app _ _ _ _ _ _ _ h (by simp)
    · rename_i c1; rw [if_neg c1] at h; cases h
def atp (t : Tk) (p : Int) : Tk := ⟨t.kind, t.text, t.num, p⟩
/-- A token is the same whatever stands behind the line's end. -/
theorem tok_line {c : UInt8} {r z : Tx} {p p' : Int} {t : Tk} {n : Nat} (h : tokF (c :: r) p = .ok (t, n)) : tokF (c :: (r ++ 10 :: z)) p' = .ok (atp t p', n) := by
  have tk1 : ∀ (q : UInt8 → Bool), (c :: (r ++ 10 :: z)).take (spanN q (c :: r)) = (c :: r).take (spanN q (c :: r)) := fun q => by
    rw [← List.cons_append]; exact List.take_append_of_le_length (span_le q _)
  have e1 : spanN digitB (c :: (r ++ 10 :: z)) = spanN digitB (c :: r) := by rw [← List.cons_append]; exact span_app (by decide) _
  have e2 : spanN innerB (c :: (r ++ 10 :: z)) = spanN innerB (c :: r) := by rw [← List.cons_append]; exact span_app (by decide) _
  unfold tokF at h ⊢
  dsimp only at h ⊢
  rw [e1, e2, tk1, tk1]
  split
  · rename_i c1; rw [if_pos c1] at h
    split
    · rename_i c2; rw [if_pos c2] at h; cases h
    · rename_i c2; rw [if_neg c2] at h; cases h; rfl
  rename_i c1; rw [if_neg c1] at h
  split
  · rename_i c2; rw [if_pos c2] at h
    cases hu : unqF (c :: r) with
    | error e => rw [hu] at h; cases h
    | ok y =>
      obtain ⟨y, q⟩ := y
      rw [hu] at h
      cases h
      have := unqF_app (z := 10 :: z) hu
      rw [List.cons_append] at this
      rw [this]; rfl
  rename_i c2; rw [if_neg c2] at h
  split
  · rename_i c3; rw [if_pos c3] at h
    split
    · rename_i c4; rw [if_pos c4] at h; cases h
    · rename_i c4; rw [if_neg c4] at h; cases h; rfl
  rename_i c3; rw [if_neg c3] at h
  split
  · rename_i c4; rw [if_pos c4] at h
    have hh : ((r ++ 10 :: z).head? = some 62 ∧ c = 45) ↔ (r.head? = some 62 ∧ c = 45) := by
      cases r with
      | nil => simp
      | cons d r => simp
    by_cases h5 : r.head? = some 62 ∧ c = 45
    · rw [if_pos (hh.2 h5)]; rw [if_pos h5] at h; cases h; rfl
    · rw [if_neg (fun x => h5 (hh.1 x))]; rw [if_neg h5] at h; cases h; rfl
  · rename_i c4; rw [if_neg c4] at h; cases h
end Go.AL
