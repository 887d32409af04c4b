/- slices.Backward: its contract as an iterator (turned from the kit's worked text on slices.Values). -/
import Derived.RangeFuncBox
import Derived.RangeFuncLeaves
import Derived.RangeFuncFrom
import Derived.Shelf.Abstract
import Derived.WalkKit
import Derived.OwnWalkIn
import Derived.TacticsInMore
import Derived.LoopNIn
import Derived.LoopIn
import Derived.Test.YteclbnjpijakbaaProg
set_option linter.unusedVariables false
namespace Go.Proofs
open Go Go.RowKit Go.Shelf
attribute [local go_sem] Oper.semAt_some

/-- The places below len, from above. -/
def downTo (len k : Nat) : List Nat := (List.range k).map fun i => len - 1 - i
theorem downTo_succ (len k : Nat) : downTo len (k + 1) = downTo len k ++ [len - 1 - k] := by simp [downTo, List.range_succ]
theorem downTo_length (len k : Nat) : (downTo len k).length = k := by simp [downTo]

set_option maxRecDepth 100000 in
set_option maxHeartbeats 4000000 in
theorem back1_in (F : Fence) (n : Nat) (h7 : F.fn 75) (hro : F.round = none) (hn : 1 ≤ n) (l Bs bo n₀ b off len cap : Nat) (vs : Nat → Value) (hreach : len ≤ 1000000) (hBn : Bs < n₀) (hb : b < n₀) (J Jx : List Nat → World → Prop)
    (hY : ∀ (pre : List Nat) (x : Nat) (W : World), J pre W → pre.length < len → YieldAt F (n - 1) Try.prog l #[.int .i64 (x : Int), vs x] W fun e W' =>
      (e = .returned (.bool true) ∧ J (pre ++ [x]) W' ∧ Below n₀ W W') ∨ (e = .returned (.bool false) ∧ Jx (pre ++ [x]) W'))
    (W : World) (hBs : W.cell? ⟨Bs, bo, none⟩ = some (.slice (some ⟨b, off, none⟩) len cap)) (hc : ∀ j, j < len → W.cell? ⟨b, off + j, none⟩ = some (vs j)) (h0 : J [] W) :
    CallsIn F n Try.prog 75 #[.func (.yield l) #[] #[], .pointer (some ⟨Bs, bo, none⟩)] W fun e W' => (∃ v, e = .returned v) ∧
      ((∃ ys, ys = downTo len len ∧ J ys W') ∨ (∃ pre, (∃ k, k ≤ len ∧ pre = downTo len k) ∧ Jx pre W')) := by
  refine callsIn_of_wp Try.func75 rfl h7 ?_ hro
  simp only [Try.ntmps75, List.size_toArray, List.length_cons, List.length_nil, Nat.reduceAdd, Nat.reduceSub, Array.replicate_succ, Array.replicate_zero, List.push_toArray, List.append_toArray, List.nil_append, List.cons_append]
  have hw0 : IntKind.i64.wrap ((len : Int) - 1) = (len : Int) - 1 := by rw [IntWalk.i64_in _ (by omega)]
  gi_wp2
  gi_loopw [3] (fun i wr => ∃ k : Nat, k ≤ len ∧ i = .int .i64 ((len : Int) - 1 - k) ∧ J (downTo len k) wr ∧ Below n₀ W wr)
    (fun i _ => (intOf i + 1).toNat)
  case atStart => exact ⟨0, Nat.zero_le _, by simp, h0, Below.refl _ _⟩
  case round =>
    obtain ⟨k, hk, rfl, hJs, hnx⟩ := hrel
    have hBs' : wr.cell? ⟨Bs, bo, none⟩ = some (.slice (some ⟨b, off, none⟩) len cap) := (hnx.cell (p := ⟨Bs, bo, none⟩) hBn).trans hBs
    by_cases hlt : k < len
    · have hi : (len : Int) - 1 - k = ((len - 1 - k : Nat) : Int) := by omega
      rw [hi]
      have hcx : wr.cell? ⟨b, off + (len - 1 - k), none⟩ = some (vs (len - 1 - k)) := (hnx.cell (p := ⟨b, off + (len - 1 - k), none⟩) hb).trans (hc _ (by omega))
      obtain ⟨fn, tmps, assign, body, hy, hR⟩ := hY _ (len - 1 - k) wr hJs (by rw [downTo_length]; exact hlt)
      generalize hj : len - 1 - k = j at hcx hy hR ⊢
      have hjl : j < len := by omega
      have hw1 : IntKind.i64.wrap ((j : Int) - 1) = (j : Int) - 1 := by rw [IntWalk.i64_in _ (by omega)]
      gi_wp2
      refine hR.mono ?_
      rintro e W3 (⟨rfl, hJ3, hk3⟩ | ⟨rfl, hJx3⟩)
      · gi_wp2
        go_roundw
        case rel => exact ⟨k + 1, by omega, by simp; omega, by rw [downTo_succ, hj]; exact hJ3, hnx.trans hk3⟩
        case measure => simp [intOf]
      · gi_wp2
        refine bodyPost_ret (results_none rfl _ _ _) rfl ?_
        exact ⟨⟨_, rfl⟩, .inr ⟨_, ⟨k + 1, by omega, by rw [downTo_succ, hj]⟩, hJx3⟩⟩
    · obtain rfl : k = len := by omega
      rw [show (k : Int) - 1 - k = -1 by omega]
      gi_wp2
      go_end0
      exact ⟨⟨_, rfl⟩, .inl ⟨_, rfl, hJs⟩⟩

/-- slices.Backward(s): s is boxed, the closure has the box. -/
theorem back_in (F : Fence) (n : Nat) (h5 : F.fn 50) (hro : F.round = none) (a : Option Addr) (len cap : Nat) (w : World) :
    CallsIn F n Try.prog 50 #[.slice a len cap] w fun e w' => e = .returned (.func (.func 75) #[] #[.pointer (some ⟨w.heap.size, 0, none⟩)]) ∧ w' = w.alloc (.cells #[.slice a len cap] 93) := by
  refine callsIn_of_wp Try.func50 rfl h5 ?_ hro
  simp only [Try.ntmps50, List.size_toArray, List.length_cons, List.length_nil, Nat.reduceAdd, Nat.reduceSub, Array.replicate_succ, Array.replicate_zero, List.push_toArray, List.append_toArray, List.nil_append, List.cons_append]
  gi_wp2
  go_ret
  exact ⟨rfl, rfl⟩

theorem back_stops (F : Fence) (n : Nat) (h7 : F.fn 75) (hro : F.round = none) (hn : 1 ≤ n) (Bs bo n₀ b off len cap : Nat) (vs : Nat → Value) (hreach : len ≤ 1000000) (w : World) (hBn : Bs < n₀) (hb : b < n₀) (hn₀ : n₀ ≤ w.heap.size)
    (hBs : w.cell? ⟨Bs, bo, none⟩ = some (.slice (some ⟨b, off, none⟩) len cap)) (hc : ∀ j, j < len → w.cell? ⟨b, off + j, none⟩ = some (vs j)) :
    SeqStopsK F n Try.prog 75 #[.pointer (some ⟨Bs, bo, none⟩)] (fun x : Nat => #[Value.int .i64 (x : Int), vs x]) (Below n₀) (fun ys => ys = downTo len len) (fun pre => ∃ k, k ≤ len ∧ pre = downTo len k) len w := fun l J Jx W hW _ _ hY h0 =>
  back1_in F n h7 hro hn l Bs bo n₀ b off len cap vs hreach hBn hb J Jx hY W ((hW.cell (p := ⟨Bs, bo, none⟩) (Nat.lt_of_lt_of_le hBn hn₀)).trans hBs) (fun j hj => (hW.cell (p := ⟨b, off + j, none⟩) (Nat.lt_of_lt_of_le hb hn₀)).trans (hc j hj)) h0

end Go.Proofs
