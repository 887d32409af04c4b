/- Brackets around the text of an exp change nothing but places. -/
import Derived.Test.YtnjiphlokjfdlaaDoorP13
import Derived.Test.YtnjiphlokjfdlaaDoorW35
set_option linter.unusedSimpArgs false
set_option linter.unusedVariables false
namespace Go.AL
theorem drop_nil_le {w : Tx} {n : Nat} (h : w.drop n = []) : w.length ≤ n := by simpa using h
theorem tok_shut (p : Int) : tokF [41] p = .ok (⟨5, [41], 0, p⟩, 1) := by
  unfold tokF
  dsimp only
  rw [if_neg (by decide), if_neg (by decide), if_neg (by decide), if_pos (by decide), if_neg (by simp)]
theorem lx_shut {w : Tx} {k : Nat} {Ts : List Tk} (h : Lx w k Ts) : ∀ k', ∃ Ts', Lx (w ++ [10, 41]) k' Ts' ∧ Ts'.length = Ts.length + 1 ∧ (∀ i, i + 1 < Ts.length → ∃ a b, Ts[i]? = some a ∧ Ts'[i]? = some b ∧ Sm a b) ∧
    (∃ c, Ts'[Ts.length - 1]? = some c ∧ c.kind = 5 ∧ c.text = [41]) ∧ (∃ e, Ts'[Ts.length]? = some e ∧ e.kind = 0) := by
  induction h with
  | @nil w k hd =>
    intro k'
    have hle := drop_nil_le hd
    have hs := skip_app (z := [41]) false w
    rw [if_neg (by omega)] at hs
    have hs : skipN false (w ++ [10, 41]) = w.length + 1 := hs
    have hdr : (w ++ [10, 41]).drop (skipN false (w ++ [10, 41])) = [41] := by
      rw [hs]; simp [List.drop_append]
    refine ⟨_, .cons hdr (tok_shut _) (.nil (by simp)), rfl, fun i hi => ?_, ⟨_, rfl, rfl, rfl⟩, ⟨_, rfl, rfl⟩⟩
    simp at hi
  | @cons w r c k n t T hd ht hr ih =>
    intro k'
    obtain ⟨tp, tn, tl, tk⟩ := tok_ok ht
    have hlt : skipN false w < w.length := by
      have := congrArg List.length hd
      simp only [List.length_drop, List.length_cons] at this
      omega
    have hs := skip_app (z := [41]) false w
    rw [if_pos hlt] at hs
    have hs : skipN false (w ++ [10, 41]) = skipN false w := hs
    have hdr : (w ++ [10, 41]).drop (skipN false (w ++ [10, 41])) = c :: (r ++ [10, 41]) := by
      rw [hs, List.drop_append_of_le_length (by omega), hd]; rfl
    have ht' := tok_line (z := [41]) (p' := ((k' + skipN false (w ++ [10, 41]) : Nat) : Int)) ht
    obtain ⟨Ts', h1, h2, h3, h4, h5⟩ := ih (k' + skipN false (w ++ [10, 41]) + n)
    have hrest : (c :: (r ++ [10, 41])).drop n = (c :: r).drop n ++ [10, 41] := by
      rw [← List.cons_append, List.drop_append_of_le_length tl]
    have hT := (lx_tok hr).1.pos
    refine ⟨_, .cons hdr ht' (by rw [hrest]; exact h1), by simp [h2], fun i hi => ?_, ?_, ?_⟩
    · cases i with
      | zero => exact ⟨_, _, rfl, rfl, rfl, rfl, rfl⟩
      | succ i =>
        obtain ⟨a, b, g1, g2, g3⟩ := h3 i (by simp at hi; omega)
        exact ⟨a, b, by simpa using g1, by simpa using g2, g3⟩
    · obtain ⟨e, g1, g2⟩ := h4
      refine ⟨e, ?_, g2⟩
      have : (t :: T).length - 1 = (T.length - 1) + 1 := by simp; omega
      rw [this]; simpa using g1
    · obtain ⟨e, g1, g2⟩ := h5
      exact ⟨e, by simpa using g1, g2⟩
theorem tok_do (z : Tx) (p : Int) : tokF (100 :: 111 :: 32 :: z) p = .ok (⟨6, [100, 111], 0, p⟩, 2) := by
  have e : spanN innerB (100 :: 111 :: 32 :: z) = 2 := by
    rw [spanN_t (by decide), spanN_t (by decide), spanN_f (by decide)]
  unfold tokF
  dsimp only
  rw [if_neg (by decide), if_neg (by decide), if_pos (by decide), e, if_neg (by decide), show (100 :: 111 :: 32 :: z : Tx).take 2 = [100, 111] from rfl, if_neg (by decide), if_pos (by decide)]
theorem tok_open (z : Tx) (p : Int) : tokF (40 :: z) p = .ok (⟨5, [40], 0, p⟩, 1) := by
  unfold tokF
  dsimp only
  rw [if_neg (by decide), if_neg (by decide), if_neg (by decide), if_pos (by decide), if_neg (by rintro ⟨_, h⟩; exact absurd h (by decide))]
theorem lx_blank {s : Tx} {k : Nat} {T : List Tk} (h : Lx (32 :: s) k T) : Lx s (k + 1) T := by
  have hs : skipN false (32 :: s) = skipN false s + 1 := skip_blank (.inl rfl)
  cases h with
  | nil hd =>
    rw [hs] at hd
    rw [hs, show k + (skipN false s + 1) = k + 1 + skipN false s by omega]
    exact .nil (by simpa using hd)
  | cons hd ht hr =>
    rw [hs] at hd
    rw [hs, show k + (skipN false s + 1) = k + 1 + skipN false s by omega] at ht hr
    exact .cons (by simpa using hd) ht hr
theorem lx_do {s : Tx} {T : List Tk} (h : Lx (100 :: 111 :: 32 :: s) 0 T) : ∃ Ts, T = ⟨6, [100, 111], 0, 0⟩ :: Ts ∧ Lx s 3 Ts := by
  have hs : skipN false (100 :: 111 :: 32 :: s) = 0 := rfl
  cases h with
  | nil hd => rw [hs] at hd; cases hd
  | cons hd ht hr =>
    rw [hs] at hd ht hr
    cases hd
    rw [tok_do] at ht
    cases ht
    exact ⟨_, rfl, lx_blank hr⟩
theorem programF_ok {s : Tx} {n : Nd} {b : Int} (h : programF s = some (n, b, 0)) : ∃ T, lexF s = .ok T ∧ parseF T = some (n, b, 0) := by
  unfold programF at h
  cases hl : lexF s with
  | error x =>
    obtain ⟨a, e⟩ := x
    rw [hl] at h
    simp only [Option.some.injEq, Prod.mk.injEq] at h
    exact absurd h.2.2 (lexF_err hl)
  | ok T => rw [hl] at h; exact ⟨T, rfl, h⟩
theorem brackets_law {s : Tx} (hs : s.length ≤ 1000) {n1 n2 : Nd} {b1 b2 : Int} (h1 : programF ([100, 111, 32] ++ s) = some (n1, b1, 0)) (h2 : programF ([100, 111, 32, 40] ++ s ++ [10, 41]) = some (n2, b2, 0)) : sameB n1 n2 = true := by
  obtain ⟨T1, l1, g1⟩ := programF_ok h1
  obtain ⟨T2, l2, g2⟩ := programF_ok h2
  obtain ⟨Ts, rfl, hx⟩ := lx_do (lexF_lx l1).1
  obtain ⟨Ts', hy, y1, y2, ⟨c, y3, y4, y5⟩, ⟨e, y6, y7⟩⟩ := lx_shut hx 4
  have hL : Lx ([100, 111, 32, 40] ++ s ++ [10, 41]) 0 (⟨6, [100, 111], 0, 0⟩ :: ⟨5, [40], 0, 3⟩ :: Ts') :=
    Lx.cons (s := 100 :: 111 :: 32 :: 40 :: (s ++ [10, 41])) (r := 111 :: 32 :: 40 :: (s ++ [10, 41])) (c := 100) (n := 2) (k := 0) rfl (tok_do (40 :: (s ++ [10, 41])) _)
      (Lx.cons (s := 32 :: 40 :: (s ++ [10, 41])) (r := s ++ [10, 41]) (c := 40) (n := 1) (k := 2) rfl (tok_open (s ++ [10, 41]) _) hy)
  have hT2 : T2 = ⟨6, [100, 111], 0, 0⟩ :: ⟨5, [40], 0, 3⟩ :: Ts' := lx_det (lexF_lx l2).1 hL
  subst hT2
  have K1 := lx_tok (lexF_lx l1).1
  have K2 := lx_tok hL
  have KT := lx_tok hx
  have hpos := KT.1.pos
  have H : TR false 1 1 (⟨6, [100, 111], 0, 0⟩ :: Ts) (⟨6, [100, 111], 0, 0⟩ :: ⟨5, [40], 0, 3⟩ :: Ts') := by
    refine ⟨K1.1, K2.1, fun h => (by cases h), fun i hi hl => ?_⟩
    cases i with
    | zero => omega
    | succ i =>
      simp only [List.length_cons] at hl
      by_cases hi2 : i + 1 < Ts.length
      · obtain ⟨a, b, z1, z2, z3⟩ := y2 i hi2
        exact ⟨a, b, by simpa using z1, by simpa using z2, .inl z3⟩
      · have hie : i = Ts.length - 1 := by omega
        have hlt : i < Ts.length := by omega
        refine ⟨Ts[i], c, by simp [hlt], by rw [hie]; simpa using y3, .inr ⟨rfl, by simp; omega, ?_, y4, y5⟩⟩
        by_cases h0 : Ts[i].kind = 0
        · exact h0
        · have := KT.1.last i Ts[i] (by simp [hlt]) h0
          omega
  exact parse_brackets H K1.2.1 rfl rfl rfl rfl rfl rfl rfl (c := c) (by
    simp only [List.length_cons]
    have : Ts.length = (Ts.length - 1) + 1 := by omega
    rw [this]; simpa using y3) y4 (e := e) (by simpa using y6) y7 g1 g2
end Go.AL
