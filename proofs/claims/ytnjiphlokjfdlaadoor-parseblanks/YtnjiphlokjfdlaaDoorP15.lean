/- A token is the same if what stands behind it is cut off. And: each token on its own line. -/
import Derived.Test.YtnjiphlokjfdlaaDoorM6
import Derived.Test.YtnjiphlokjfdlaaDoorP13
set_option linter.unusedSimpArgs false
set_option linter.unusedVariables false
namespace Go.AL
theorem span_cut {p : UInt8 → Bool} : ∀ (w : Tx) (m : Nat), spanN p w ≤ m → spanN p (w.take m) = spanN p w
  | [], m, h => by simp
  | c :: w, 0, h => by
    cases hc : p c with
    | true => rw [spanN_t hc] at h; omega
    | false => rw [spanN_f hc]; rfl
  | c :: w, m + 1, h => by
    rw [List.take_succ_cons]
    cases hc : p c with
    | true => rw [spanN_t hc] at h ⊢; rw [spanN_t hc, span_cut w m (by omega)]
    | false => rw [spanN_f hc, spanN_f hc]
theorem esc_cut {r : Tx} {x : UInt8} {n m : Nat} (h : escF r = .ok (x, n)) (hm : n ≤ m) : escF (r.take m) = .ok (x, n) := by
  cases r with
  | nil => cases h
  | cons c r =>
    have hn := (esc_ok h).1
    cases m with
    | zero => omega
    | succ m =>
      rw [List.take_succ_cons]
      unfold escF at h ⊢
      dsimp only at h ⊢
      split
      · rename_i c1; rw [if_pos c1] at h; exact h
      rename_i c1; rw [if_neg c1] at h
      split
      · rename_i c2; rw [if_pos c2] at h; exact h
      rename_i c2; rw [if_neg c2] at h
      split
      · rename_i c3; rw [if_pos c3] at h; exact h
      rename_i c3; rw [if_neg c3] at h
      split
      · rename_i c4; rw [if_pos c4] at h; exact h
      rename_i c4; rw [if_neg c4] at h
      cases r with
      | nil => cases h
      | cons a r =>
        dsimp only at h
        cases ha : hexF a with
        | none => rw [ha] at h; cases h
        | some x1 =>
          rw [ha] at h
          dsimp only at h
          cases r with
          | nil => cases h
          | cons b r =>
            dsimp only at h
            cases hb : hexF b with
            | none => rw [hb] at h; cases h
            | some y1 =>
              rw [hb] at h
              have hn3 : n = 3 := by cases h; rfl
              subst hn3
              obtain ⟨m', rfl⟩ : ∃ m', m = m' + 2 := ⟨m - 2, by omega⟩
              rw [List.take_succ_cons, List.take_succ_cons]
              dsimp only
              rw [ha]; dsimp only; rw [hb]; exact h
theorem unqL_fuel : ∀ (m m' : Nat) (r b : Tx) (k : Nat) (x : Tx) (n : Nat), unqL m r b k = .ok (x, n) → r.length < m' → unqL m' r b k = .ok (x, n)
  | 0, m', r, b, k, x, n, h, hm => by cases h
  | m + 1, 0, r, b, k, x, n, h, hm => by omega
  | m + 1, m' + 1, [], b, k, x, n, h, hm => by cases h
  | m + 1, m' + 1, c :: r, b, k, x, n, h, hm => by
    rw [Go.Proofs.unq_step] at h ⊢
    simp only [List.length_cons] at hm
    split
    · rename_i c1; rw [if_pos c1] at h; exact h
    rename_i c1; rw [if_neg c1] at h
    split
    · rename_i c2; rw [if_pos c2] at h; exact h
    rename_i c2; rw [if_neg c2] at h
    split
    · rename_i c3; rw [if_pos c3] at h
      cases he : escF r with
      | error e => rw [he] at h; cases h
      | ok y =>
        obtain ⟨y, q⟩ := y
        rw [he] at h
        exact unqL_fuel m m' _ _ _ _ _ h (by simp only [List.length_drop]; omega)
    rename_i c3; rw [if_neg c3] at h
    split
    · rename_i c4; rw [if_pos c4] at h
      exact unqL_fuel m m' _ _ _ _ _ h (by omega)
    · rename_i c4; rw [if_neg c4] at h; cases h
theorem unqL_cut : ∀ (m q : Nat) (r b : Tx) (k : Nat) (x : Tx) (n : Nat), unqL m r b k = .ok (x, n) → k < n ∧ (n ≤ k + q → unqL m (r.take q) b k = .ok (x, n))
  | 0, q, r, b, k, x, n, h => by cases h
  | m + 1, q, [], b, k, x, n, h => by cases h
  | m + 1, q, c :: r, b, k, x, n, h => by
    rw [Go.Proofs.unq_step] at h
    by_cases c1 : c = 10
    · rw [if_pos c1] at h; cases h
    rw [if_neg c1] at h
    by_cases c2 : c = 34
    · rw [if_pos c2] at h
      by_cases c5 : 60 < b.length
      · rw [if_pos c5] at h; cases h
      rw [if_neg c5] at h
      cases h
      refine ⟨by omega, fun hq => ?_⟩
      obtain ⟨q, rfl⟩ : ∃ q', q = q' + 1 := ⟨q - 1, by omega⟩
      rw [List.take_succ_cons, Go.Proofs.unq_step, if_neg c1, if_pos c2, if_neg c5]
    rw [if_neg c2] at h
    by_cases c3 : c = 92
    · rw [if_pos c3] at h
      cases he : escF r with
      | error e => rw [he] at h; cases h
      | ok y =>
        obtain ⟨y, w⟩ := y
        rw [he] at h
        obtain ⟨i1, i2⟩ := unqL_cut m (q - 1 - w) _ _ _ _ _ h
        refine ⟨by omega, fun hq => ?_⟩
        obtain ⟨q, rfl⟩ : ∃ q', q = q' + 1 := ⟨q - 1, by omega⟩
        rw [List.take_succ_cons, Go.Proofs.unq_step, if_neg c1, if_neg c2, if_pos c3, esc_cut he (by omega)]
        show unqL m ((r.take q).drop w) _ _ = _
        rw [List.drop_take]
        exact i2 (by omega)
    rw [if_neg c3] at h
    by_cases c4 : plainB c = true
    · rw [if_pos c4] at h
      obtain ⟨i1, i2⟩ := unqL_cut m (q - 1) _ _ _ _ _ h
      refine ⟨by omega, fun hq => ?_⟩
      obtain ⟨q, rfl⟩ : ∃ q', q = q' + 1 := ⟨q - 1, by omega⟩
      rw [List.take_succ_cons, Go.Proofs.unq_step, if_neg c1, if_neg c2, if_neg c3, if_pos c4]
      exact i2 (by omega)
    · rw [if_neg c4] at h; cases h
theorem unqF_cut {c : UInt8} {r : Tx} {x : Tx} {n q : Nat} (h : unqF (c :: r) = .ok (x, n)) (hq : n ≤ q + 1) : unqF (c :: r.take q) = .ok (x, n) := by
  unfold unqF at h ⊢
  dsimp only at h ⊢
  split
  · rename_i c1; rw [if_pos c1] at h
    obtain ⟨i1, i2⟩ := unqL_cut _ q _ _ _ _ _ h
    exact unqL_fuel _ _ _ _ _ _ _ (i2 (by omega)) (by omega)
  · rename_i c1; rw [if_neg c1] at h; cases h
theorem tok_cut {c : UInt8} {r : Tx} {p : Int} {t : Tk} {n q : Nat} (h : tokF (c :: r) p = .ok (t, n)) (hq : n ≤ q + 1) : tokF (c :: r.take q) p = .ok (t, n) := by
  have sp : ∀ (f : UInt8 → Bool), spanN f (c :: r) ≤ q + 1 → spanN f (c :: r.take q) = spanN f (c :: r) := fun f h => by
    rw [← List.take_succ_cons]; exact span_cut _ _ h
  have tk : ∀ (i : Nat), i ≤ q + 1 → (c :: r.take q).take i = (c :: r).take i := fun i h => by
    rw [← List.take_succ_cons, List.take_take, Nat.min_eq_left h]
  unfold tokF at h ⊢
  dsimp only at h ⊢
  by_cases c1 : digitB c = true
  · rw [if_pos c1] at h ⊢
    by_cases c2 : 4611686018427387903 < valF ((c :: r).take (spanN digitB (c :: r)))
    · rw [if_pos c2] at h; cases h
    rw [if_neg c2] at h
    cases h
    rw [sp _ hq, tk _ hq, if_neg c2]
  rw [if_neg c1] at h ⊢
  by_cases c2 : c = 34
  · rw [if_pos c2] at h ⊢
    cases hu : unqF (c :: r) with
    | error e => rw [hu] at h; cases h
    | ok y =>
      obtain ⟨y, w⟩ := y
      rw [hu] at h
      cases h
      rw [unqF_cut hu hq]
  rw [if_neg c2] at h ⊢
  by_cases c3 : (smallB c || largeB c) = true
  · rw [if_pos c3] at h ⊢
    by_cases c4 : 16 < spanN innerB (c :: r)
    · rw [if_pos c4] at h; cases h
    rw [if_neg c4] at h
    cases h
    rw [sp _ hq, tk _ hq, if_neg c4]
  rw [if_neg c3] at h ⊢
  by_cases c4 : c ∈ signsL
  · rw [if_pos c4] at h ⊢
    by_cases c5 : r.head? = some 62 ∧ c = 45
    · rw [if_pos c5] at h
      cases h
      obtain ⟨q, rfl⟩ : ∃ q', q = q' + 1 := ⟨q - 1, by omega⟩
      have : (r.take (q + 1)).head? = some 62 := by
        cases r with
        | nil => exact absurd c5.1 (by simp)
        | cons d r => exact c5.1
      rw [if_pos ⟨this, c5.2⟩]
    · rw [if_neg c5] at h
      cases h
      rw [if_neg]
      rintro ⟨x, y⟩
      refine c5 ⟨?_, y⟩
      cases r with
      | nil => simp at x
      | cons d r =>
        cases q with
        | zero => simp at x
        | succ q => exact x
  · rw [if_neg c4] at h; cases h
theorem tok_noskip {c : UInt8} {r : Tx} {p : Int} {t : Tk} {n : Nat} (h : tokF (c :: r) p = .ok (t, n)) (z : Tx) : skipN false (c :: z) = 0 := by
  rw [sk_f]
  by_cases h1 : c = 32 ∨ c = 9 ∨ c = 10
  · exfalso
    rcases h1 with rfl | rfl | rfl <;> (unfold tokF at h; dsimp only at h; rw [if_neg (by decide), if_neg (by decide), if_neg (by decide), if_neg (by decide)] at h; cases h)
  · rw [if_neg h1]
    by_cases h2 : c = 35
    · exfalso
      subst h2
      unfold tokF at h; dsimp only at h; rw [if_neg (by decide), if_neg (by decide), if_neg (by decide), if_neg (by decide)] at h; cases h
    · rw [if_neg h2]
theorem skip_take : ∀ (b : Bool) (w : Tx), skipN b (w.take (skipN b w)) = skipN b w
  | b, [] => by simp
  | true, c :: w => by
    rw [sk_t]
    by_cases hc : c = 10
    · rw [if_pos hc, List.take_succ_cons, sk_t, if_pos hc, skip_take false w]
    · rw [if_neg hc, List.take_succ_cons, sk_t, if_neg hc, skip_take true w]
  | false, c :: w => by
    rw [sk_f]
    by_cases hc : c = 32 ∨ c = 9 ∨ c = 10
    · rw [if_pos hc, List.take_succ_cons, sk_f, if_pos hc, skip_take false w]
    · rw [if_neg hc]
      by_cases h2 : c = 35
      · rw [if_pos h2, List.take_succ_cons, sk_f, if_neg hc, if_pos h2, skip_take true w]
      · rw [if_neg h2]; rfl
/-- Blanks and remarks ahead. -/
theorem lx_ahead {w z : Tx} {k m : Nat} {T : List Tk} (hd : w.drop m = z) (hs : skipN false w = m + skipN false z) (h : Lx z (k + m) T) : Lx w k T := by
  cases h with
  | nil h1 =>
    rw [show k + m + skipN false z = k + skipN false w by omega]
    refine .nil ?_
    rw [hs, ← List.drop_drop, hd]; exact h1
  | cons h1 h2 h3 =>
    rw [show k + m + skipN false z = k + skipN false w by omega] at h2 h3
    refine .cons ?_ h2 h3
    rw [hs, ← List.drop_drop, hd]; exact h1
/-- Each token's text with what stands behind it, and a line's end. -/
def blF (s : Tx) : List Tk → Tx
  | [] => []
  | [t] => (s.drop t.pos.toNat) ++ [10]
  | t :: u :: T => ((s.drop t.pos.toNat).take (u.pos.toNat - t.pos.toNat)) ++ 10 :: blF s (u :: T)
theorem lx_head {s : Tx} {k : Nat} {T : List Tk} (h : Lx s k T) : ∃ u U, T = u :: U ∧ u.pos = ((k + skipN false s : Nat) : Int) := by
  cases h with
  | nil h => exact ⟨_, _, rfl, rfl⟩
  | cons h1 h2 h3 => exact ⟨_, _, rfl, (tok_ok h2).1⟩
theorem lx_lines {s0 s : Tx} {k : Nat} {T : List Tk} (h : Lx s k T) : s = s0.drop k → ∀ k', ∃ T', Lx (blF s0 T) k' T' ∧ T'.length = T.length ∧ ∀ i, i < T.length → ∃ a b, T[i]? = some a ∧ T'[i]? = some b ∧ Sm a b := by
  induction h with
  | @nil s k hd =>
    intro hs k'
    refine ⟨[⟨0, [], 0, ((k' + skipN false [10] : Nat) : Int)⟩], ?_, rfl, fun i hi => ?_⟩
    · have e : blF s0 [⟨0, [], 0, ((k + skipN false s : Nat) : Int)⟩] = [10] := by
        show s0.drop (k + skipN false s) ++ [10] = [10]
        rw [← List.drop_drop, ← hs, hd]; rfl
      rw [e]
      exact .nil rfl
    · simp at hi; subst hi
      exact ⟨_, _, rfl, rfl, rfl, rfl, rfl⟩
  | @cons s r c k n t T hd ht hr ih =>
    intro hs k'
    obtain ⟨tp, tn, tl, tk⟩ := tok_ok ht
    obtain ⟨u, U, rfl, hu⟩ := lx_head hr
    have hcr : c :: r = s0.drop (k + skipN false s) := by rw [← List.drop_drop, ← hs, hd]
    obtain ⟨w2, hw2⟩ : ∃ w2, w2 = (c :: r).drop n := ⟨_, rfl⟩
    have hw0 : w2 = s0.drop (k + skipN false s + n) := by rw [hw2, hcr, List.drop_drop]
    rw [← hw2] at hu hr
    have hle := skip_le false w2
    obtain ⟨T', i1, i2, i3⟩ := ih (by rw [hcr, List.drop_drop]) (k' + n + skipN false w2 + 1)
    have hseg : blF s0 (t :: u :: U) = c :: ((r.take (n + skipN false w2 - 1)) ++ 10 :: blF s0 (u :: U)) := by
      show (s0.drop t.pos.toNat).take (u.pos.toNat - t.pos.toNat) ++ _ = _
      rw [tp, hu, show ((k + skipN false s + n + skipN false w2 : Nat) : Int).toNat - ((k + skipN false s : Nat) : Int).toNat = (n + skipN false w2 - 1) + 1 by omega,
        show ((k + skipN false s : Nat) : Int).toNat = k + skipN false s from rfl, ← hcr, List.take_succ_cons, List.cons_append]
    obtain ⟨z, hz⟩ : ∃ z, z = blF s0 (u :: U) := ⟨_, rfl⟩
    rw [hseg]
    rw [← hz] at i1 ⊢
    have hsk : skipN false (c :: ((r.take (n + skipN false w2 - 1)) ++ 10 :: z)) = 0 := tok_noskip ht _
    have ht' := tok_line (z := z) (p' := ((k' + skipN false (c :: ((r.take (n + skipN false w2 - 1)) ++ 10 :: z)) : Nat) : Int)) (tok_cut (q := n + skipN false w2 - 1) ht (by omega))
    have hrest : (c :: ((r.take (n + skipN false w2 - 1)) ++ 10 :: z)).drop n = w2.take (skipN false w2) ++ 10 :: z := by
      rw [← List.cons_append, ← List.take_succ_cons, show n + skipN false w2 - 1 + 1 = n + skipN false w2 by omega, List.drop_append_of_le_length, List.drop_take, ← hw2, show n + skipN false w2 - n = skipN false w2 by omega]
      rw [List.length_take]
      have : w2.length = (c :: r).length - n := by rw [hw2, List.length_drop]
      omega
    refine ⟨_, .cons (T := T') (by rw [hsk]; rfl) ht' ?_, by simp [i2], fun i hi => ?_⟩
    · rw [hrest, hsk]
      have hlen : (w2.take (skipN false w2)).length = skipN false w2 := by rw [List.length_take]; omega
      refine lx_ahead (m := skipN false w2 + 1) (z := z) ?_ ?_ ?_
      · rw [List.drop_append, hlen, List.drop_of_length_le (by omega), show skipN false w2 + 1 - skipN false w2 = 1 by omega]; rfl
      · rw [skip_app, skip_take, hlen, if_neg (by omega)]
      · rw [show k' + 0 + n + (skipN false w2 + 1) = k' + n + skipN false w2 + 1 by omega]
        exact i1
    · cases i with
      | zero => exact ⟨_, _, rfl, rfl, rfl, rfl, rfl⟩
      | succ i =>
        obtain ⟨a, b, g1, g2, g3⟩ := i3 i (by simpa using hi)
        exact ⟨a, b, by simpa using g1, by simpa using g2, g3⟩
theorem blF_len (s : Tx) : ∀ (T : List Tk) (lo : Nat), (∀ (i : Nat) (t : Tk), T[i]? = some t → (lo : Int) ≤ t.pos ∧ t.pos ≤ (s.length : Int)) → (∀ (i j : Nat) (a b : Tk), i ≤ j → T[i]? = some a → T[j]? = some b → a.pos ≤ b.pos) → (blF s T).length ≤ s.length - lo + T.length
  | [], lo, h1, h2 => by simp [blF]
  | [t], lo, h1, h2 => by
    have := h1 0 t rfl
    simp only [blF, List.length_append, List.length_drop, List.length_cons, List.length_nil]
    omega
  | t :: u :: T, lo, h1, h2 => by
    have a := h1 0 t rfl
    have b := h1 1 u rfl
    have c := h2 0 1 t u (by omega) rfl rfl
    have ih := blF_len s (u :: T) u.pos.toNat (fun i x hx => by
      have := h2 1 (i + 1) u x (by omega) rfl (by simpa using hx)
      have := h1 (i + 1) x (by simpa using hx)
      omega) (fun i j x y hij hx hy => h2 (i + 1) (j + 1) x y (by omega) (by simpa using hx) (by simpa using hy))
    simp only [blF, List.length_append, List.length_take, List.length_drop, List.length_cons] at ih ⊢
    omega
/-- What ParseBlanks says. -/
theorem blanks_law {s : Tx} (hs : s.length ≤ 400) {T : List Tk} (hT : lexF s = .ok T) {n1 n2 : Nd} {b1 b2 e1 e2 : Int} (h1 : programF s = some (n1, b1, e1)) (h2 : programF (blF s T) = some (n2, b2, e2)) : e1 = e2 ∧ sameB n1 n2 = true := by
  have hx := (lexF_lx hT).1
  obtain ⟨K1, K2, K3, K4⟩ := lx_tok hx
  obtain ⟨T', i1, i2, i3⟩ := lx_lines (s0 := s) hx rfl 0
  have hl := blF_len s T 0 (fun i t h => by have := K3 i t h; omega) K1.sorted
  have hT' := lx_lexF i1 (by omega)
  unfold programF at h1 h2
  rw [hT] at h1
  rw [hT'] at h2
  exact parse_same ⟨K1, (lx_tok i1).1, fun _ => rfl, fun i hi hl => by
    obtain ⟨a, b, g1, g2, g3⟩ := i3 i hl
    exact ⟨a, b, g1, g2, .inl g3⟩⟩ h1 h2
end Go.AL
