/- Rows of TreeMany: cover.Check takes them. -/
import Derived.Test.YtcanmhognofheaaP6
import Derived.Test.YtcanmhognofheaaP7
import Derived.Test.YtcanmhognofheaaP8
set_option linter.all false
namespace Go.Proofs
open Go Go.AL
theorem all_tog {n : Nat} (h : n < 21) : togB n = true := by
  match n,h with
  | 0,_ => exact togB0
  | 1,_ => exact togB1
  | 2,_ => exact togB2
  | 3,_ => exact togB3
  | 4,_ => exact togB4
  | 5,_ => exact togB5
  | 6,_ => exact togB6
  | 7,_ => exact togB7
  | 8,_ => exact togB8
  | 9,_ => exact togB9
  | 10,_ => exact togB10
  | 11,_ => exact togB11
  | 12,_ => exact togB12
  | 13,_ => exact togB13
  | 14,_ => exact togB14
  | 15,_ => exact togB15
  | 16,_ => exact togB16
  | 17,_ => exact togB17
  | 18,_ => exact togB18
  | 19,_ => exact togB19
  | 20,_ => exact togB20
  | n + 21,h => exact absurd h (by omega)
structure RowsB (rows : List Nd) : Prop where
  few : rows.length ≤ 20
  cnt : ∀ p ∈ rows,cnt p ≤ 100000
  nl : 6 * nlL rows + 10 < 50000
  chk : (chkF consL 100000 rows).2 ≠ 1
theorem rows_ok {n : Nat} (h : n < 21) : RowsB (manyRows n) := by
  have hs := all_sz
  rw [List.all_eq_true] at hs
  have hs := hs n (by simpa using h)
  unfold szB at hs
  simp only [Bool.and_eq_true,List.all_eq_true,decide_eq_true_eq] at hs
  obtain ⟨⟨h1,h2⟩,h3⟩ := hs
  refine ⟨h3,fun p hp => Nat.le_trans (h1 p hp).2 (by decide),by omega,?_⟩
  have ht := all_tog h
  unfold togB at ht
  rw [← togF_d] at ht
  have ht := togF_up consL 60 _ ht 100000 (by decide)
  unfold chkF
  rw [if_neg (by rintro (h | h); omega; rw [sound_cons] at h; cases h),if_neg ?_,if_neg (by rw [ht]; decide)]
  · split
    · intro hc; exact absurd (show (27 : Int) = 1 from hc) (by decide)
    · split <;> decide
  · intro hc
    rw [List.any_eq_true] at hc
    obtain ⟨p,hp,hc⟩ := hc
    rw [size_d,(h1 p hp).1] at hc
    cases hc
end Go.Proofs
