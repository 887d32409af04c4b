/- Plain: the long and the deep type that are made up. -/
import Derived.Test.YteclbnjpijakbaaDoorW7
namespace Go.Proofs
open Go Go.AL

def nameA : ByteArray := ⟨#[97]⟩
def tA : Ty := .mk 0 nameA []
/-- A name in a name, so many. -/
def chain (n : ByteArray) : Nat → Ty
  | 0 => tA
  | k + 1 => .mk 0 n [chain n k]

theorem nd_chain (n : ByteArray) : ∀ k, nd (chain n k) = k + 1
  | 0 => rfl
  | k + 1 => by rw [chain, nd, ndL, ndL, nd_chain n k]; omega
theorem dp_chain (n : ByteArray) : ∀ k, dp (chain n k) = k + 1
  | 0 => rfl
  | k + 1 => by rw [chain, dp, dpL, dpL, dp_chain n k]; omega
theorem ne_a : (ByteArray.toList ⟨#[97]⟩ == ByteArray.toList ⟨#[]⟩) = false := by decide +kernel
theorem ne_d : (ByteArray.toList ⟨#[100]⟩ == ByteArray.toList ⟨#[]⟩) = false := by decide +kernel
theorem ne_w : (ByteArray.toList ⟨#[119]⟩ == ByteArray.toList ⟨#[]⟩) = false := by decide +kernel

theorem good_a (p : Int → Bool) : goodB p tA = true := by
  unfold tA nameA
  rw [goodB, if_pos rfl, ne_a, goodL]; rfl
theorem good_chain (p : Int → Bool) : ∀ k, goodB p (chain ⟨#[100]⟩ k) = true
  | 0 => good_a p
  | k + 1 => by rw [chain, goodB, if_pos rfl, ne_d, goodL, goodL, good_chain p k]; rfl

theorem may_chain (p : Int → Bool) (k : Nat) (h : k ≤ 100) : mayB p (chain ⟨#[100]⟩ k) = decide (k + 1 ≤ 40) := by
  unfold mayB
  rw [good_chain, nd_chain, dp_chain, show decide (k + 1 ≤ 200) = true by simp; omega]; simp

theorem ndL_as (n : Nat) : ndL (List.replicate n tA) = n := by
  induction n with
  | zero => rfl
  | succ n ih => rw [List.replicate_succ, ndL, ih]; show 1 + n = n + 1; omega
theorem dpL_as (n : Nat) : dpL (List.replicate n tA) ≤ 1 := by
  induction n with
  | zero => simp [dpL]
  | succ n ih => rw [List.replicate_succ, dpL]; show max 1 _ ≤ 1; omega
theorem goodL_as (p : Int → Bool) (n : Nat) : goodL p (List.replicate n tA) = true := by
  induction n with
  | zero => rfl
  | succ n ih => rw [List.replicate_succ, goodL, ih, good_a]; rfl

theorem may_wide (p : Int → Bool) (n : Nat) : mayB p (.mk 0 ⟨#[119]⟩ (List.replicate n tA)) = decide (n < 200) := by
  unfold mayB
  rw [goodB, if_pos rfl, ne_w, goodL_as, nd, ndL_as, dp]
  have := dpL_as n
  rw [show decide (1 + dpL (List.replicate n tA) ≤ 40) = true by simp; omega]
  have : (1 + n ≤ 200) ↔ (n < 200) := by omega
  simp [this]

/-- The absolute value as the law has it. -/
def absF (n : Int) : Int := if n < 0 then -(n + 1) else n
theorem absF_nn (n : Int) : 0 ≤ absF n := by unfold absF; split <;> omega

end Go.Proofs
