/- slices.Backward: its contract as an iterator (turned from the kit's worked text on slices.Values). -/
import Derived.RangeFuncBox
import Derived.RangeFuncLeaves
import Derived.RangeFuncFrom
import Derived.Shelf.Abstract
import Derived.WalkKit
import Derived.OwnWalkIn
import Derived.TacticsInMore
import Derived.LoopNIn
import Derived.LoopIn
import Derived.Test.YteclbnjpijakbaaProg
import Derived.Test.YteclbnjpijakbaaM2
import Derived.Test.YteclbnjpijakbaaA8
set_option linter.unusedVariables false
namespace Go.Proofs
open Go Go.RowKit Go.Shelf
attribute [local go_sem] Oper.semAt_some

/-- The places below len, from above. -/
def downTo (len k : Nat) : List Nat := (List.range k).map fun i => len - 1 - i
theorem downTo_succ (len k : Nat) : downTo len (k + 1) = downTo len k ++ [len - 1 - k] := by simp [downTo, List.range_succ]
theorem downTo_length (len k : Nat) : (downTo len k).length = k := by simp [downTo]

set_option maxRecDepth 100000 in
set_option maxHeartbeats 4000000 in
theorem back1_in (F : Fence) (n : Nat) (h7 : F.fn 75) (hro : F.round = none) (hn : 1 ≤ n) (l Bs bo n₀ b off len cap : Nat) (vs : Nat → Value) (hreach : len ≤ 1000000) (hBn : Bs < n₀) (hb : b < n₀) (J Jx : List Nat → World → Prop)
    (hY : ∀ (pre : List Nat) (x : Nat) (W : World), J pre W → pre.length < len → YieldAt F (n - 1) Try.prog l #[.int .i64 (x : Int), vs x] W fun e W' =>
      (e = .returned (.bool true) ∧ J (pre ++ [x]) W' ∧ Below n₀ W W') ∨ (e = .returned (.bool false) ∧ Jx (pre ++ [x]) W'))
    (W : World) (hBs : W.cell? ⟨Bs, bo, none⟩ = some (.slice (some ⟨b, off, none⟩) len cap)) (hc : ∀ j, j < len → W.cell? ⟨b, off + j, none⟩ = some (vs j)) (h0 : J [] W) :
    CallsIn F n Try.prog 75 #[.func (.yield l) #[] #[], .pointer (some ⟨Bs, bo, none⟩)] W fun e W' => (∃ v, e = .returned v) ∧
      ((∃ ys, ys = downTo len len ∧ J ys W') ∨ (∃ pre, (∃ k, k ≤ len ∧ pre = downTo len k) ∧ Jx pre W')) := by
  refine callsIn_of_wp Try.func75 rfl h7 ?_ hro
  simp only [Try.ntmps75, List.size_toArray, List.length_cons, List.length_nil, Nat.reduceAdd, Nat.reduceSub, Array.replicate_succ, Array.replicate_zero, List.push_toArray, List.append_toArray, List.nil_append, List.cons_append]
  have hw0 : IntKind.i64.wrap ((len : Int) - 1) = (len : Int) - 1 := by rw [IntWalk.i64_in _ (by omega)]
  gi_wp2
  gi_loopw [3] (fun i wr => ∃ k : Nat, k ≤ len ∧ i = .int .i64 ((len : Int) - 1 - k) ∧ J (downTo len k) wr ∧ Below n₀ W wr)
    (fun i _ => (intOf i + 1).toNat)
  case atStart => exact ⟨0, Nat.zero_le _, by simp, h0, Below.refl _ _⟩
  case round =>
    obtain ⟨k, hk, rfl, hJs, hnx⟩ := hrel
    have hBs' : wr.cell? ⟨Bs, bo, none⟩ = some (.slice (some ⟨b, off, none⟩) len cap) := (hnx.cell (p := ⟨Bs, bo, none⟩) hBn).trans hBs
    by_cases hlt : k < len
    · have hi : (len : Int) - 1 - k = ((len - 1 - k : Nat) : Int) := by omega
      rw [hi]
      have hcx : wr.cell? ⟨b, off + (len - 1 - k), none⟩ = some (vs (len - 1 - k)) := (hnx.cell (p := ⟨b, off + (len - 1 - k), none⟩) hb).trans (hc _ (by omega))
      obtain ⟨fn, tmps, assign, body, hy, hR⟩ := hY _ (len - 1 - k) wr hJs (by rw [downTo_length]; exact hlt)
      generalize hj : len - 1 - k = j at hcx hy hR ⊢
      have hjl : j < len := by omega
      have hw1 : IntKind.i64.wrap ((j : Int) - 1) = (j : Int) - 1 := by rw [IntWalk.i64_in _ (by omega)]
      gi_wp2
      refine hR.mono ?_
      rintro e W3 (⟨rfl, hJ3, hk3⟩ | ⟨rfl, hJx3⟩)
      · gi_wp2
        go_roundw
        case rel => exact ⟨k + 1, by omega, by simp; omega, by rw [downTo_succ, hj]; exact hJ3, hnx.trans hk3⟩
        case measure => simp [intOf]
      · gi_wp2
        refine bodyPost_ret (results_none rfl _ _ _) rfl ?_
        exact ⟨⟨_, rfl⟩, .inr ⟨_, ⟨k + 1, by omega, by rw [downTo_succ, hj]⟩, hJx3⟩⟩
    · obtain rfl : k = len := by omega
      rw [show (k : Int) - 1 - k = -1 by omega]
      gi_wp2
      go_end0
      exact ⟨⟨_, rfl⟩, .inl ⟨_, rfl, hJs⟩⟩

/-- slices.Backward(s): s is boxed, the closure has the box. -/
theorem back_in (F : Fence) (n : Nat) (h5 : F.fn 50) (hro : F.round = none) (a : Option Addr) (len cap : Nat) (w : World) :
    CallsIn F n Try.prog 50 #[.slice a len cap] w fun e w' => e = .returned (.func (.func 75) #[] #[.pointer (some ⟨w.heap.size, 0, none⟩)]) ∧ w' = w.alloc (.cells #[.slice a len cap] 93) := by
  refine callsIn_of_wp Try.func50 rfl h5 ?_ hro
  simp only [Try.ntmps50, List.size_toArray, List.length_cons, List.length_nil, Nat.reduceAdd, Nat.reduceSub, Array.replicate_succ, Array.replicate_zero, List.push_toArray, List.append_toArray, List.nil_append, List.cons_append]
  gi_wp2
  go_ret
  exact ⟨rfl, rfl⟩

theorem back_stops (F : Fence) (n : Nat) (h7 : F.fn 75) (hro : F.round = none) (hn : 1 ≤ n) (Bs bo n₀ b off len cap : Nat) (vs : Nat → Value) (hreach : len ≤ 1000000) (w : World) (hBn : Bs < n₀) (hb : b < n₀) (hn₀ : n₀ ≤ w.heap.size)
    (hBs : w.cell? ⟨Bs, bo, none⟩ = some (.slice (some ⟨b, off, none⟩) len cap)) (hc : ∀ j, j < len → w.cell? ⟨b, off + j, none⟩ = some (vs j)) :
    SeqStopsK F n Try.prog 75 #[.pointer (some ⟨Bs, bo, none⟩)] (fun x : Nat => #[Value.int .i64 (x : Int), vs x]) (Below n₀) (fun ys => ys = downTo len len) (fun pre => ∃ k, k ≤ len ∧ pre = downTo len k) len w := fun l J Jx W hW _ _ hY h0 =>
  back1_in F n h7 hro hn l Bs bo n₀ b off len cap vs hreach hBn hb J Jx hY W ((hW.cell (p := ⟨Bs, bo, none⟩) (Nat.lt_of_lt_of_le hBn hn₀)).trans hBs) (fun j hj => (hW.cell (p := ⟨b, off + j, none⟩) (Nat.lt_of_lt_of_le hb hn₀)).trans (hc j hj)) h0

end Go.Proofs
set_option linter.unusedVariables false
namespace Go.Proofs
open Go Go.RowKit Go.Shelf
attribute [local go_sem] Oper.semAt_some

/-- The range as code. -/
noncomputable def readRange : Code := match Try.f17.body with
  | some (.seq _ (.seq _ (.seq _ (.seq (.seq _ c) _)))) => c
  | _ => .skip

theorem mem_downTo {k m i : Nat} (h1 : i < k) (h2 : k - 1 - i < m) : i ∈ downTo k m := List.mem_map.2 ⟨k - 1 - i, List.mem_range.2 h2, by omega⟩

theorem below_setCell {n : Nat} {w W : World} (h : Below n w W) (a : Addr) (v : Value) : Below n (w.setCell a v) (W.setCell a v) := by
  refine ⟨h.os, h.tape, h.output, by simpa using h.size, fun k hk => ?_⟩
  have := h.block k hk
  unfold World.setCell
  simp only [Array.getElem?_modify, this]

theorem below_cell {w W : World} (h : Below w.heap.size w W) {a : Addr} {v : Value} (hc : w.cell? a = some v) : W.cell? a = some v := by
  have hlt : a.block < w.heap.size := by
    unfold World.cell? at hc
    cases hx : w.heap[a.block]? with
    | none => rw [hx] at hc; simp at hc
    | some o => exact (Array.getElem?_eq_some_iff.1 hx).1
  exact (h.cell hlt).trans hc

set_option maxRecDepth 100000 in
set_option maxHeartbeats 4000000 in
theorem range_wp (w : World) (u : Nat → Value) (B5 o5 B6 B7 Bs bo b cap k : Nat) (mb : Nat → Nat) (n : Int) (lk : Nat → Option Int) (Q : Exit → Act → World → Prop)
    (h5 : w.cell? ⟨B5, o5, none⟩ = some (.int .i64 n)) (x6 x7 : Value) (T6 T7 : TypeId) (h6 : w.heap[B6]? = some (.cells #[x6] T6 (0, 0))) (h7 : w.heap[B7]? = some (.cells #[x7] T7 (0, 0))) (h67 : B6 ≠ B7) (hk1 : 1 ≤ k) (hk : k ≤ 1000000)
    (hs : w.cell? ⟨Bs, bo, none⟩ = some (.slice (some ⟨b, 0, none⟩) k cap)) (hBs : Bs < w.heap.size) (hb : b < w.heap.size) (hc : ∀ j, j < k → w.cell? ⟨b, 0 + j, none⟩ = some (.map (some (mb j))))
    (hl : ∀ j W, Below w.heap.size w W → (Instr.lookup 92 (.map (some (mb j))) (.int .i64 n) true).run Try.prog W = .ok (.tuple #[.int .i64 ((lk j).getD 0), .bool (lk j).isSome]) W)
    (hnone : ∀ D W, w.heap.size ≤ D → (∀ j, j < k → lk j = none) → Below w.heap.size w W → W.heap[D]? = some (.deferred (some [])) → Q .normal { tmps := #[u 0, u 1, u 2, u 3, u 4, .pointer (some ⟨B5, o5, none⟩), .pointer (some ⟨B6, 0, none⟩), .pointer (some ⟨B7, 0, none⟩), u 8, u 9, u 10, u 11, u 12, u 13, u 14, u 15, u 16, u 17, u 18, u 19, u 20, u 21, u 22, u 23, u 24, u 25, u 26, u 27, u 28, .func (.func 75) #[] #[.pointer (some ⟨Bs, bo, none⟩)], u 30, u 31, u 32, u 33, u 34, u 35, u 36, u 37, u 38, u 39, u 40, u 41, u 42, u 43, u 44, u 45, u 46, u 47, u 48, u 49, u 50, u 51, u 52, u 53, u 54, u 55, u 56, u 57, u 58, u 59, u 60, u 61, u 62, u 63, u 64, u 65, u 66, u 67, u 68, u 69, u 70, u 71, u 72], defers := [{ target := .collected D, args := #[] }] } W)
    (hfound : ∀ D W j v, w.heap.size ≤ D → j < k → lk j = some v → (∀ i, j < i → i < k → lk i = none) → Below w.heap.size ((w.setCell ⟨B6, 0, none⟩ (.int .i64 v)).setCell ⟨B7, 0, none⟩ (.int .i64 0)) W → W.heap[D]? = some (.deferred (some [])) →
      Q .ret { tmps := #[u 0, u 1, u 2, u 3, u 4, .pointer (some ⟨B5, o5, none⟩), .pointer (some ⟨B6, 0, none⟩), .pointer (some ⟨B7, 0, none⟩), u 8, u 9, u 10, u 11, u 12, u 13, u 14, u 15, u 16, u 17, u 18, u 19, u 20, u 21, u 22, u 23, u 24, u 25, u 26, u 27, u 28, .func (.func 75) #[] #[.pointer (some ⟨Bs, bo, none⟩)], u 30, u 31, u 32, u 33, u 34, u 35, u 36, u 37, u 38, u 39, u 40, u 41, u 42, u 43, u 44, u 45, u 46, u 47, u 48, u 49, u 50, u 51, u 52, u 53, u 54, u 55, u 56, u 57, u 58, u 59, u 60, u 61, u 62, u 63, u 64, u 65, u 66, u 67, u 68, u 69, u 70, u 71, u 72], defers := [{ target := .collected D, args := #[] }] } W) :
    readRange.wp Try.prog Q { tmps := #[u 0, u 1, u 2, u 3, u 4, .pointer (some ⟨B5, o5, none⟩), .pointer (some ⟨B6, 0, none⟩), .pointer (some ⟨B7, 0, none⟩), u 8, u 9, u 10, u 11, u 12, u 13, u 14, u 15, u 16, u 17, u 18, u 19, u 20, u 21, u 22, u 23, u 24, u 25, u 26, u 27, u 28, .func (.func 75) #[] #[.pointer (some ⟨Bs, bo, none⟩)], u 30, u 31, u 32, u 33, u 34, u 35, u 36, u 37, u 38, u 39, u 40, u 41, u 42, u 43, u 44, u 45, u 46, u 47, u 48, u 49, u 50, u 51, u 52, u 53, u 54, u 55, u 56, u 57, u 58, u 59, u 60, u 61, u 62, u 63, u 64, u 65, u 66, u 67, u 68, u 69, u 70, u 71, u 72], defers := [] } w := by
  refine (wpIn_wide (n := 2)).1 ?_
  delta readRange
  dsimp only [Try.f17]
  refine wpIn_block ?_
  refine wpIn_rangeFunc_ownF rfl (by decide) (gf := 75) (lb := #[.pointer (some ⟨Bs, bo, none⟩)]) rfl trivial (enters_of Try.func75 (by kernel_rfl) rfl) (back_stops Fence.wide 1 trivial rfl (Nat.le_refl _) Bs bo w.heap.size b 0 k cap (fun j => .map (some (mb j))) hk w hBs hb (Nat.le_refl _) hs hc) (fun h k => belowK_t h k) (belowK_b (Nat.le_refl _)) (Below.refl _ _) (fun _ => rfl)
    (fun pre W => (∀ j, j ∈ pre → lk j = none) ∧ Below w.heap.size w W)
    (fun c pre W => (c = .ret ∧ ∃ pre' j v, pre = pre' ++ [j] ∧ (∀ i, i ∈ pre' → lk i = none) ∧ lk j = some v ∧ Below w.heap.size ((w.setCell ⟨B6, 0, none⟩ (.int .i64 v)).setCell ⟨B7, 0, none⟩ (.int .i64 0)) W))
    ?hI ?hIx ?h0 (fun x => { tmps := #[u 0, u 1, u 2, u 3, u 4, .pointer (some ⟨B5, o5, none⟩), .pointer (some ⟨B6, 0, none⟩), .pointer (some ⟨B7, 0, none⟩), u 8, u 9, .map (some (mb x)), u 11, u 12, u 13, u 14, u 15, u 16, u 17, u 18, u 19, u 20, u 21, u 22, u 23, u 24, u 25, u 26, u 27, u 28, .func (.func 75) #[] #[.pointer (some ⟨Bs, bo, none⟩)], .int .i64 (x : Int), .map (some (mb x)), u 32, u 33, u 34, u 35, u 36, u 37, u 38, u 39, u 40, u 41, u 42, u 43, u 44, u 45, u 46, u 47, u 48, u 49, u 50, u 51, u 52, u 53, u 54, u 55, u 56, u 57, u 58, u 59, u 60, u 61, u 62, u 63, u 64, u 65, u 66, u 67, u 68, u 69, u 70, u 71, u 72], defers := [] }) ?assign ?body ?done ?stop
  case hI => exact OwnFrom.and (fun s W W' row h _ _ => h) (ownFrom_below (Nat.le_refl _) (Nat.le_refl _))
  case hIx =>
    rintro c s W W' row ⟨hc, pre', j, v, e1, e2, e3, hB⟩ hg hr
    exact ⟨hc, pre', j, v, e1, e2, e3, ownFrom_below (β := Unit) (w₀ := (w.setCell ⟨B6, 0, none⟩ (.int .i64 v)).setCell ⟨B7, 0, none⟩ (.int .i64 0)) (by simp) (Nat.le_refl _) () W W' row hB hg hr⟩
  case h0 => exact ⟨fun j h => (by cases h), Below.refl _ _⟩
  case assign =>
    intro l x W K hK
    gi_wp2
    exact hK
  case body =>
    rintro l pre x W ⟨hp, hB⟩ hlt
    have g5 : W.cell? ⟨B5, o5, none⟩ = some (.int .i64 n) := below_cell hB h5
    have hlk := hl x W hB
    have hlt6 := (Array.getElem?_eq_some_iff.1 h6).1
    have hlt7 := (Array.getElem?_eq_some_iff.1 h7).1
    have e6 : W.heap[B6]? = some (.cells #[x6] T6 (0, 0)) := (hB.block B6 hlt6).trans h6
    have e7 : W.heap[B7]? = some (.cells #[x7] T7 (0, 0)) := (hB.block B7 hlt7).trans h7
    have g6 : W.cell? ⟨B6, 0, none⟩ = some x6 := by simp [World.cell?, e6]
    have g6f : W.frozen? ⟨B6, 0, none⟩ = false := by simp [World.frozen?, e6]
    have g7 : W.cell? ⟨B7, 0, none⟩ = some x7 := by simp [World.cell?, e7]
    have g7f : W.frozen? ⟨B7, 0, none⟩ = false := by simp [World.frozen?, e7]
    have h76 : B7 ≠ B6 := h67.symm
    cases hx : lk x with
    | none =>
      rw [hx] at hlk
      simp only [Option.getD_none, Option.isSome_none] at hlk
      gi_wp2
      exact ⟨KeepsOthers.refl _, Below.refl _ _, fun j hj => (List.mem_append.1 hj).elim (hp j) (fun h => by simp at h; rw [h]; exact hx), hB⟩
    | some v =>
      rw [hx] at hlk
      simp only [Option.getD_some, Option.isSome_some] at hlk
      gi_wp2
      exact ⟨(KeepsOthers.setCell _ _ _).trans (KeepsOthers.setCell _ _ _), rfl, pre, x, rfl, hp, v, hx, below_setCell (below_setCell hB _ _) _ _⟩
  case done =>
    intro D xs W hD hS hI hh
    obtain ⟨hp, hB⟩ := hI
    exact hnone D W hD (fun j hj => hp j (by rw [hS]; exact mem_downTo hj (by omega))) hB hh
  case stop =>
    rintro D c pre W hD ⟨k', hk', rfl⟩ ⟨rfl, pre', j, v, e1, e2, e3, hB⟩ hh
    gi_wp2
    have hm : ∃ m, k' = m + 1 ∧ pre' = downTo k m ∧ j = k - 1 - m := by
      cases k' with
      | zero => simp [downTo] at e1
      | succ m =>
        rw [downTo_succ] at e1
        obtain ⟨q1, q2⟩ := List.append_inj' e1 rfl
        exact ⟨m, rfl, q1.symm, by simpa using q2.symm⟩
    obtain ⟨m, rfl, rfl, rfl⟩ := hm
    exact hfound D W _ v hD (by omega) e3 (fun i hi hik => e2 i (mem_downTo hik (by omega))) hB hh

end Go.Proofs
set_option linter.unusedSimpArgs false
set_option linter.unusedVariables false
set_option maxRecDepth 8000
namespace Go.Proofs
open Go Go.AL Go.RowKit

theorem lit73 (t : Array Value) (h : t.size = 73) : t = #[t.getD 0 undef, t.getD 1 undef, t.getD 2 undef, t.getD 3 undef, t.getD 4 undef, t.getD 5 undef, t.getD 6 undef, t.getD 7 undef, t.getD 8 undef, t.getD 9 undef, t.getD 10 undef, t.getD 11 undef, t.getD 12 undef, t.getD 13 undef, t.getD 14 undef, t.getD 15 undef, t.getD 16 undef, t.getD 17 undef, t.getD 18 undef, t.getD 19 undef, t.getD 20 undef, t.getD 21 undef, t.getD 22 undef, t.getD 23 undef, t.getD 24 undef, t.getD 25 undef, t.getD 26 undef, t.getD 27 undef, t.getD 28 undef, t.getD 29 undef, t.getD 30 undef, t.getD 31 undef, t.getD 32 undef, t.getD 33 undef, t.getD 34 undef, t.getD 35 undef, t.getD 36 undef, t.getD 37 undef, t.getD 38 undef, t.getD 39 undef, t.getD 40 undef, t.getD 41 undef, t.getD 42 undef, t.getD 43 undef, t.getD 44 undef, t.getD 45 undef, t.getD 46 undef, t.getD 47 undef, t.getD 48 undef, t.getD 49 undef, t.getD 50 undef, t.getD 51 undef, t.getD 52 undef, t.getD 53 undef, t.getD 54 undef, t.getD 55 undef, t.getD 56 undef, t.getD 57 undef, t.getD 58 undef, t.getD 59 undef, t.getD 60 undef, t.getD 61 undef, t.getD 62 undef, t.getD 63 undef, t.getD 64 undef, t.getD 65 undef, t.getD 66 undef, t.getD 67 undef, t.getD 68 undef, t.getD 69 undef, t.getD 70 undef, t.getD 71 undef, t.getD 72 undef] := by
  have e : t.toList = (List.range 73).map fun i => t.getD i undef := by
    refine List.ext_getElem (by simp [h]) fun i h1 h2 => ?_
    have hi : i < t.size := by simpa using h1
    simp [Array.getD, hi]
  apply Array.toList_inj.1
  rw [e]
  rfl

theorem range_al {fn : Func} {K : SV → St → Prop} {st0 : St} {σ0 : Sig} {w0 : World} {rest : Code} {st : St} {σ : Sig} {w : World} {a : Act} {env : List SV} (i6 i7 pid pver : Nat) (n : Int) (mids : List Nat) (maps : List PMap) (cs : List SV) (x6 x7 : SV)
    (hI : Inv st σ w) (hR : RepEnv st σ w env a.tmps) (hd : a.defers = []) (hX : Ext st0 σ0 w0 st σ w) (hlen : env.length = 73)
    (e5 : env.getD 5 .any = .ref [i64 n]) (e6 : env.getD 6 .any = .ptr i6 0) (e7 : env.getD 7 .any = .ptr i7 0) (e29 : env.getD 29 .any = .func (.func 75) [] [.ref [.arr pid pver mids.length]])
    (h6 : st[i6]? = some (.cells [x6])) (h7 : st[i7]? = some (.cells [x7])) (h67 : i6 ≠ i7)
    (hp : st[pid]? = some (.arr pver 1 cs)) (hle : mids.length ≤ cs.length) (htk : cs.take mids.length = mids.map .mp) (hm : ∀ i, i < mids.length → st[mids.getD i 0]? = some (.map (pmEs (maps.getD i [])))) (h1 : 1 ≤ mids.length) (hk : mids.length ≤ 1000000)
    (hn : (∀ j, j < mids.length → pmGet (maps.getD j []) n = none) → AWp Try.prog rest (RetQ Try.prog fn K) env st)
    (hf : ∀ v j, j < mids.length → pmGet (maps.getD j []) n = some v → (∀ i, j < i → i < mids.length → pmGet (maps.getD i []) n = none) → RetQ Try.prog fn K .ret env ((st.set i6 (.cells [i64 v])).set i7 (.cells [i64 0]))) :
    readRange.wp Try.prog (fun e a' w' => match e with | .normal => rest.wp Try.prog (MPost Try.prog fn K st0 σ0 w0) a' w' | e => MPost Try.prog fn K st0 σ0 w0 e a' w') a w := by
  obtain ⟨t, ds⟩ := a
  simp only at hd hR
  subst hd
  have r5 := hR.get 5
  have r6 := hR.get 6
  have r7 := hR.get 7
  have r29 := hR.get 29
  rw [e5] at r5; rw [e6] at r6; rw [e7] at r7; rw [e29] at r29
  have hsz : t.size = 73 := hR.1.trans hlen
  have hlit := lit73 t hsz
  generalize hv5 : t.getD 5 undef = v5 at r5
  generalize hv6 : t.getD 6 undef = v6 at r6
  generalize hv7 : t.getD 7 undef = v7 at r7
  generalize hv29 : t.getD 29 undef = v29 at r29
  obtain ⟨B6, y6, T6, m6, q6⟩ := hI.cell1 h6
  obtain ⟨B7, y7, T7, m7, q7⟩ := hI.cell1 h7
  have h67' : B6 ≠ B7 := by
    rintro rfl
    exact h67 (hI.inj _ _ _ (lt_of_get h6) (lt_of_get h7) m6 m7)
  have p6 : v6 = .pointer (some ⟨B6, 0, none⟩) := by
    cases r6 with
    | ptr id off b' hkk hb => rw [m6] at hb; cases hb; rfl
  have p7 : v7 = .pointer (some ⟨B7, 0, none⟩) := by
    cases r7 with
    | ptr id off b' hkk hb => rw [m7] at hb; cases hb; rfl
  obtain ⟨B5, o5, p5, c5⟩ : ∃ B5 o5, v5 = .pointer (some ⟨B5, o5, none⟩) ∧ w.cell? ⟨B5, o5, none⟩ = some (.int .i64 n) := by
    cases r5 with
    | ref cells b' o' vals hc hr =>
      refine ⟨b', o', rfl, ?_⟩
      have := (hc 0 (by simp)).1
      have hr0 := rep_sc (hr 0 (by simp))
      rw [hr0] at this
      simpa using this
  obtain ⟨Bs, bo, b, cap, ps, cS, cA, vals, T, μp, hh, hcap⟩ : ∃ Bs bo b cap, v29 = .func (.func 75) #[] #[.pointer (some ⟨Bs, bo, none⟩)] ∧ w.cell? ⟨Bs, bo, none⟩ = some (.slice (some ⟨b, 0, none⟩) mids.length cap) ∧ mids.length ≤ cap ∧
      ∃ vals T, σ.μ pid = some b ∧ w.heap[b]? = some (.cells vals T (0, 0)) ∧ cap ≤ vals.size := by
    cases r29 with
    | func fn first captured vf vc q1 q2 s1 s2 =>
      have hvf : vf = #[] := Array.eq_empty_of_size_eq_zero (by simpa using q1)
      have s0 := s2 0 (by simp)
      simp only [List.getD_cons_zero] at s0
      have hvc : vc = #[vc.getD 0 default] := by
        simp only [List.length_cons, List.length_nil] at q2
        apply Array.ext
        · simpa using q2
        · intro i z1 z2
          have : i = 0 := by simp at z2; omega
          subst this
          simp [Array.getD, z1]
      rw [hvf, hvc]
      generalize vc.getD 0 default = vq at s0
      cases s0 with
      | ref cells b' o' vals' hc hr =>
        have z1 := (hc 0 (by simp)).1
        have z2 := hr 0 (by simp)
        simp only [List.getD_cons_zero] at z2
        generalize vals' 0 = va at z1 z2
        cases z2 with
        | arr _ _ _ v0 z cs' v ho hk' hv hh' =>
          rw [hp] at hk'; cases hk'
          obtain ⟨_, y⟩ := hh' rfl
          rcases y with ⟨_, y2, _⟩ | ⟨bb, cap, vals2, T, y1, rfl, y3, y4, y5⟩
          · omega
          · exact ⟨b', o', bb, cap, rfl, by simpa using z1, y3, vals2, T, y1, y4, by omega⟩
  subst p6 p7 p5 ps
  obtain ⟨k, hkd⟩ : ∃ k, k = mids.length := ⟨_, rfl⟩
  obtain ⟨mid, hmid⟩ : ∃ mid : Nat → Nat, mid = fun j => min j (k - 1) := ⟨_, rfl⟩
  have hml : ∀ j, mid j < mids.length := fun j => by rw [hmid]; simp only; omega
  have hmj : ∀ j, j < mids.length → mid j = j := fun j hj => by rw [hmid]; simp only; omega
  have hμ : ∀ j, ∃ bb, σ.μ (mids.getD (mid j) 0) = some bb := fun j => by
    obtain ⟨bb, _, _, z, _⟩ := hI.maps _ _ (hm _ (hml j))
    exact ⟨bb, z⟩
  have hcells : ∀ j, j < mids.length → w.cell? ⟨b, 0 + j, none⟩ = some (.map (some ((σ.μ (mids.getD (mid j) 0)).getD 0))) := by
    intro j hj
    rcases hI.arrs pid pver 1 cs hp with ⟨z1, _⟩ | ⟨b', vals', T', z1, z2, z3, z4, z5⟩
    · rw [μp] at z1; cases z1
    rw [μp] at z1; cases z1
    rw [hh] at z2; cases z2
    have y1 := z4 j (by omega)
    have y2 : cs.getD j .any = .mp (mids.getD j 0) := by
      have h3 : (cs.take mids.length)[j]? = (mids.map SV.mp)[j]? := by rw [htk]
      rw [List.getElem?_take_of_lt hj, List.getElem?_map, List.getElem?_eq_getElem hj] at h3
      simp [List.getD_eq_getElem?_getD, h3, hj]
    rw [y2] at y1
    have y3 : vals.getD j default = .map (some ((σ.μ (mids.getD (mid j) 0)).getD 0)) := by
      generalize vals.getD j default = vv at y1
      cases y1 with
      | mp _ bb hkk hb => rw [hmj j hj, hb]; rfl
    have y4 : j < vals.size := by omega
    rw [Array.getD_eq_getD_getElem?, Array.getElem?_eq_getElem y4] at y3
    simp only [Option.getD_some] at y3
    simp [World.cell?, hh, y4, y3]
  have hlt : Bs < w.heap.size ∧ b < w.heap.size := by
    refine ⟨?_, lt_of_some hh⟩
    unfold World.cell? at cS
    cases hx : w.heap[Bs]? with
    | none => simp [hx] at cS
    | some o => exact lt_of_some hx
  have hfin : ∀ (D : Nat), MPost Try.prog fn K st0 σ0 w0 = MPost Try.prog fn K st0 σ0 w0 := fun _ => rfl
  rw [hlit, hv5, hv6, hv7, hv29]
  refine range_wp w (fun i => t.getD i undef) B5 o5 B6 B7 Bs bo b cap mids.length (fun j => (σ.μ (mids.getD (mid j) 0)).getD 0) n (fun j => pmGet (maps.getD (mid j) []) n) _ c5 y6 y7 T6 T7 q6 q7 h67' h1 hk cS hlt.1 hlt.2 hcells ?_ ?_ ?_
  · intro j W hB
    have hIW := inv_below hI hB
    obtain ⟨bb, hbb⟩ := hμ j
    have hmm := hm _ (hml j)
    have hg := mapGet_int (P := Try.prog) (n := n) Try.amap92 Try.zeroSV3 (mapAt_eq hmm) (pm_int _)
    rw [pm_get] at hg
    have hrm : Rep st σ W (.mp (mids.getD (mid j) 0)) (.map (some ((σ.μ (mids.getD (mid j) 0)).getD 0))) := by
      rw [hbb]
      exact .mp _ bb ⟨_, hmm⟩ hbb
    obtain ⟨v, z1, z2⟩ := run_lookup hIW hg hrm (.sc (.int .i64 n)) true
    rw [rep_sc z2] at z1
    exact z1
  · intro D W hD hnn hB hmk
    obtain ⟨k1, k2, k3⟩ := lay_mark hI hB hD hmk
    refine wp_mark (hn fun j hj => ?_) k1 ?_ rfl (hX.trans k2) (Nat.le_trans hX.size hD) k3 hmk
    · have := hnn j hj
      rw [hmj j hj] at this
      exact this
    · have := hR.ext k2
      rw [hlit, hv5, hv6, hv7, hv29] at this
      exact this
  · intro D W j v hD hj hv hrest hB hmk
    obtain ⟨g1, g2⟩ := hI.set1 h6 m6 (.int .i64 v)
    have h7' : (st.set i6 (.cells [.sc (.int .i64 v)]))[i7]? = some (.cells [x7]) := by rw [List.getElem?_set_ne h67]; exact h7
    obtain ⟨g3, g4⟩ := g1.set1 h7' m7 (.int .i64 0)
    have hsz2 : ((w.setCell ⟨B6, 0, none⟩ (.int .i64 v)).setCell ⟨B7, 0, none⟩ (.int .i64 0)).heap.size = w.heap.size := by simp [World.setCell]
    obtain ⟨k1, k2, k3⟩ := lay_mark g3 (by rw [hsz2]; exact hB) (by rw [hsz2]; exact hD) hmk
    have hXX := (g2.trans g4).trans k2
    refine ⟨env, _, _, hf v j hj (by rw [hmj j hj] at hv; exact hv) (fun i z1 z2 => by have := hrest i z1 z2; rw [hmj i z2] at this; exact this), k1, ?_, hX.trans hXX, .inr ⟨D, rfl, Nat.le_trans hX.size hD, k3, hmk⟩⟩
    have := hR.ext hXX
    rw [hlit, hv5, hv6, hv7, hv29] at this
    exact this

end Go.Proofs
set_option linter.unusedSimpArgs false
set_option linter.unusedVariables false
set_option maxRecDepth 8000
namespace Go.Proofs
open Go Go.AL

/-- What the last map says that says anything. -/
def topGet : List FM → Int → Option Int
  | [], _ => none
  | f :: r, n => (topGet r n).or (f n)

theorem topGet_none {maps : List PMap} {n : Int} (h : ∀ j, j < maps.length → pmGet (maps.getD j []) n = none) : topGet (maps.map pmGet) n = none := by
  induction maps with
  | nil => rfl
  | cons m r ih =>
    have h0 := h 0 (by simp)
    have h1 := ih fun j hj => h (j + 1) (by simpa using hj)
    simp only [List.map_cons, topGet, h1]
    simpa using h0
theorem topGet_some {maps : List PMap} {n v : Int} {j : Nat} (hj : j < maps.length) (hv : pmGet (maps.getD j []) n = some v) (h : ∀ i, j < i → i < maps.length → pmGet (maps.getD i []) n = none) : topGet (maps.map pmGet) n = some v := by
  induction maps generalizing j with
  | nil => cases hj
  | cons m r ih =>
    cases j with
    | zero =>
      have h1 := topGet_none (maps := r) (n := n) fun i hi => h (i + 1) (by omega) (by simpa using hi)
      simp only [List.map_cons, topGet, h1]
      simpa using hv
    | succ j =>
      have h1 := ih (j := j) (by simpa using hj) hv fun i h1 h2 => h (i + 1) (by omega) (by simpa using h2)
      simp only [List.map_cons, topGet, h1]
      rfl

def readF (E : EP) (t n : Int) : (Int × Int) × EP := match E.opn t with
  | none => ((0, 1), E)
  | some x => if E.is n = true then
      match topGet x.maps n with
      | some v => ((v, 0), E)
      | none => if lookF t x.start (E.vars.getD n.toNat default) ≠ 0 then ((0, lookF t x.start (E.vars.getD n.toNat default)), E) else
          (((E.vars.getD n.toNat default).val, 0), if n ∈ x.reads then E else E.put t { x with reads := x.reads ++ [n] })
    else ((0, 1), E)

def TX.addRead (x : TX) (n : Int) : TX := { x with reads := x.reads ++ [n], rver := x.rver + 1 }

theorem EngAt.app {st : St} {E : EG} (h : EngAt st E) (l : St) : EngAt (st ++ l) E ∧ Fr st E (st ++ l) E :=
  eng_core h rfl rfl rfl (by rw [List.getElem?_append_left (lt_of_get h.cells)]; exact h.cells) (by rw [List.getElem?_append_left (lt_of_get h.vars)]; exact h.vars) h.many (by simp)
    (fun j _ _ hj => List.getElem?_append_left hj)

theorem back_c {st : St} {id ver k : Nat} (K : SV → St → Prop) (h : K (.func (.func 75) [] [.ref [.arr id ver k]]) st) : ACalls Try.prog 50 [.arr id ver k] K st := by
  refine acalls_go (M := []) Try.func50 rfl Try.results50 Try.ntmps50 ?_
  simp only [go_sem, reduceCtorEq, Nat.reduceAdd, Nat.reduceMul, Nat.reduceLeDiff, Nat.reduceLT, Int.reduceLE, Int.reduceLT, Int.reduceEq, Nat.reduceBEq, Nat.reduceEqDiff]
  exact h

theorem ids_full1 (m : Nat) (n : Int) : Ids m (.slice .full 1 [i64 n]) := by
  refine .slice _ _ _ (fun _ _ e => by cases e) fun i j hi hj => ?_
  have hi' : i = 0 := by simp at hi; omega
  have : j = 0 := by omega
  subst this; subst hi'
  exact .sc _

theorem addRead_at {st : St} {x : TX} (hT : TxAt st x) (n : Int) : TxAt ((st.set x.rid (.tok (x.rver + 1))).set x.id (.cells (x.addRead n).cells)) (x.addRead n) := by
  have hlt1 := lt_of_get hT.cells
  have hlt2 := lt_of_get hT.tok
  have n1 : x.id ≠ x.rid := fun e => by have := hT.cells; rw [e, hT.tok] at this; cases this
  obtain ⟨cs, hp, hle, htk⟩ := hT.parts
  have n2 : x.id ≠ x.pid := fun e => by have := hT.cells; rw [e, hp] at this; cases this
  have n3 : x.rid ≠ x.pid := fun e => by have := hT.tok; rw [e, hp] at this; cases this
  refine ⟨List.getElem?_set_self (by simpa using hlt1), ?_, ⟨cs, ?_, hle, htk⟩, hT.len, fun i hi => ?_, hT.nodup, hT.keys⟩
  · exact (List.getElem?_set_ne n1).trans (List.getElem?_set_self hlt2)
  · exact (List.getElem?_set_ne n2).trans ((List.getElem?_set_ne n3).trans hp)
  · have h5 := hT.maps i hi
    have h6 := hT.ne_map h5
    exact (List.getElem?_set_ne h6.1.symm).trans ((List.getElem?_set_ne h6.2.1.symm).trans h5)

theorem addRead_eng {st s : St} {E : EG} (hE : EngAt st E) {t : Nat} (ht : t < 8) {x : TX} (hx : E.txs[t]? = some (some x)) (n : Int) (hlen : st.length ≤ s.length)
    (hs : ∀ j, j < st.length → s[j]? = ((st.set x.rid (.tok (x.rver + 1))).set x.id (.cells (x.addRead n).cells))[j]?) : EngAt s (E.setTx t (x.addRead n)) ∧ Fr st E s (E.setTx t (x.addRead n)) := by
  have hT := hE.tx _ _ hx
  refine eng_tx hE ht hx rfl hlen (fun j hj hlt => ?_) ((addRead_at hT n).of_same fun j hj => hs j (hT.has_lt hj)) fun j hj => .inl hj
  rw [hs j hlt, List.getElem?_set_ne (fun e => hj (.inl e.symm)), List.getElem?_set_ne (fun e => hj (.inr (.inl e.symm)))]

set_option maxHeartbeats 8000000 in
theorem read_c {st : St} {E : EG} (hE : EngAt st E) (hF : Fine E) (t n : Int) (K : SV → St → Prop)
    (h : ∀ s E', EngAt s E' → Fr st E s E' → E'.abs = (readF E.abs t n).2 → K (.tuple [i64 (readF E.abs t n).1.1, i64 (readF E.abs t n).1.2]) s) : ACalls Try.prog 17 [.ptr E.id 0, i64 t, i64 n] K st := by
  have hab := abs_opn E t
  have hai := abs_is E n
  unfold readF at h
  rw [hab, hai] at h
  refine acalls_restM Try.func17 rfl fun σ w hI => ?_
  rw [Try.ntmps17]
  refine restM_go [6, 7] Try.results17 ?_
  simp only [go_sem, reduceCtorEq, Nat.reduceAdd, Nat.reduceMul, Nat.reduceLeDiff, Nat.reduceLT, Int.reduceLE, Int.reduceLT, Int.reduceEq, Nat.reduceBEq, Nat.reduceEqDiff, restR_n, restR_r, rest2R_n]
  obtain ⟨s0, hs0⟩ : ∃ s0, s0 = st ++ [Ob.cells [SV.sc (Value.int IntKind.i64 0)], Ob.cells [SV.sc (Value.int IntKind.i64 0)]] := ⟨_, rfl⟩
  rw [← hs0]
  obtain ⟨hE0, hFr0⟩ := hE.app [Ob.cells [SV.sc (Value.int IntKind.i64 0)], Ob.cells [SV.sc (Value.int IntKind.i64 0)]]
  rw [← hs0] at hE0 hFr0
  have hopn := open_c hE0 t
  have his := is_c hE0 n
  have b6 : s0[st.length]? = some (.cells [i64 0]) := by rw [hs0]; simp
  have b7 : s0[st.length + 1]? = some (.cells [i64 0]) := by rw [hs0, List.getElem?_append_right (by omega)]; simp
  have g6 := cells_facts b6
  have g7 := cells_facts b7
  have hn67 : st.length ≠ st.length + 1 := by omega
  have hn76 : st.length + 1 ≠ st.length := by omega
  have hkeep : ∀ (a b : Int), EngAt ((s0.set st.length (.cells [i64 a])).set (st.length + 1) (.cells [i64 b])) E ∧ Fr st E ((s0.set st.length (.cells [i64 a])).set (st.length + 1) (.cells [i64 b])) E := by
    intro a b
    have hg : ∀ j, j < st.length → ((s0.set st.length (.cells [i64 a])).set (st.length + 1) (.cells [i64 b]))[j]? = st[j]? := fun j hj => by
      rw [List.getElem?_set_ne (by omega), List.getElem?_set_ne (by omega), hs0, List.getElem?_append_left hj]
    exact eng_core hE rfl rfl rfl (by rw [hg _ (lt_of_get hE.cells)]; exact hE.cells) (by rw [hg _ (lt_of_get hE.vars)]; exact hE.vars) hE.many (by rw [hs0]; simp) (fun j _ _ hj => hg j hj)
  cases hx : E.opn t with
  | none =>
    rw [hx] at hopn h
    refine restM_go [] Try.results17 ?_
    simp only [go_sem, reduceCtorEq, Nat.reduceAdd, Nat.reduceMul, Nat.reduceLeDiff, Nat.reduceLT, Int.reduceLE, Int.reduceLT, Int.reduceEq, Nat.reduceBEq, Nat.reduceEqDiff, restR_n, restR_r, rest2R_n]
    refine hopn _ ?_
    simp only [txSV, go_sem, reduceCtorEq, Nat.reduceAdd, Nat.reduceMul, Nat.reduceLeDiff, Nat.reduceLT, Int.reduceLE, Int.reduceLT, Int.reduceEq, Nat.reduceBEq, Nat.reduceEqDiff, restR_n, restR_r, rest2R_n]
    refine restM_go [] Try.results17 ?_
    simp only [txSV, go_sem, reduceCtorEq, Nat.reduceAdd, Nat.reduceMul, Nat.reduceLeDiff, Nat.reduceLT, Int.reduceLE, Int.reduceLT, Int.reduceEq, Nat.reduceBEq, Nat.reduceEqDiff, restR_n, restR_r, rest2R_n, g6.1, g6.2.1, g6.2.2, g7.1, g7.2.1, g7.2.2, hn67, hn76]
    exact h _ _ (hkeep 0 1).1 (hkeep 0 1).2 rfl
  | some x =>
    rw [hx] at hopn h
    obtain ⟨ht, htx⟩ := of_opn hx
    have hT := hE0.tx _ x htx
    have h1 := hF.one _ x htx
    have h2 := (hF.reads _ x htx).2.2
    have g := cells_facts hT.cells
    cases hb : E.is n with
    | false =>
      rw [hb] at his h
      refine restM_go [] Try.results17 ?_
      simp only [go_sem, reduceCtorEq, Nat.reduceAdd, Nat.reduceMul, Nat.reduceLeDiff, Nat.reduceLT, Int.reduceLE, Int.reduceLT, Int.reduceEq, Nat.reduceBEq, Nat.reduceEqDiff, restR_n, restR_r, rest2R_n]
      refine hopn _ ?_
      simp only [txSV, go_sem, reduceCtorEq, Nat.reduceAdd, Nat.reduceMul, Nat.reduceLeDiff, Nat.reduceLT, Int.reduceLE, Int.reduceLT, Int.reduceEq, Nat.reduceBEq, Nat.reduceEqDiff, restR_n, restR_r, rest2R_n]
      refine restM_go [] Try.results17 ?_
      simp only [txSV, go_sem, reduceCtorEq, Nat.reduceAdd, Nat.reduceMul, Nat.reduceLeDiff, Nat.reduceLT, Int.reduceLE, Int.reduceLT, Int.reduceEq, Nat.reduceBEq, Nat.reduceEqDiff, restR_n, restR_r, rest2R_n]
      refine his _ ?_
      simp only [txSV, go_sem, reduceCtorEq, Nat.reduceAdd, Nat.reduceMul, Nat.reduceLeDiff, Nat.reduceLT, Int.reduceLE, Int.reduceLT, Int.reduceEq, Nat.reduceBEq, Nat.reduceEqDiff, restR_n, restR_r, rest2R_n, g6.1, g6.2.1, g6.2.2, g7.1, g7.2.1, g7.2.2, hn67, hn76]
      exact h _ _ (hkeep 0 1).1 (hkeep 0 1).2 rfl
    | true =>
      rw [hb] at his h
      obtain ⟨cs, hp, hle, htk⟩ := hT.parts
      have w := arr_facts hp
      refine restM_go [] Try.results17 ?_
      simp only [go_sem, reduceCtorEq, Nat.reduceAdd, Nat.reduceMul, Nat.reduceLeDiff, Nat.reduceLT, Int.reduceLE, Int.reduceLT, Int.reduceEq, Nat.reduceBEq, Nat.reduceEqDiff, restR_n, restR_r, rest2R_n]
      refine hopn _ ?_
      simp only [txSV, go_sem, reduceCtorEq, Nat.reduceAdd, Nat.reduceMul, Nat.reduceLeDiff, Nat.reduceLT, Int.reduceLE, Int.reduceLT, Int.reduceEq, Nat.reduceBEq, Nat.reduceEqDiff, restR_n, restR_r, rest2R_n]
      refine restM_go [] Try.results17 ?_
      simp only [txSV, go_sem, reduceCtorEq, Nat.reduceAdd, Nat.reduceMul, Nat.reduceLeDiff, Nat.reduceLT, Int.reduceLE, Int.reduceLT, Int.reduceEq, Nat.reduceBEq, Nat.reduceEqDiff, restR_n, restR_r, rest2R_n]
      refine his _ ?_
      simp only [txSV, go_sem, reduceCtorEq, Nat.reduceAdd, Nat.reduceMul, Nat.reduceLeDiff, Nat.reduceLT, Int.reduceLE, Int.reduceLT, Int.reduceEq, Nat.reduceBEq, Nat.reduceEqDiff, restR_n, restR_r, rest2R_n]
      refine restM_go2 [] Try.results17 ?_
      simp only [txSV, go_sem, reduceCtorEq, Nat.reduceAdd, Nat.reduceMul, Nat.reduceLeDiff, Nat.reduceLT, Int.reduceLE, Int.reduceLT, Int.reduceEq, Nat.reduceBEq, Nat.reduceEqDiff, restR_n, restR_r, rest2R_n, g.1, g.2.1, g.2.2, TX.cells]
      refine back_c _ ?_
      simp only [txSV, go_sem, reduceCtorEq, Nat.reduceAdd, Nat.reduceMul, Nat.reduceLeDiff, Nat.reduceLT, Int.reduceLE, Int.reduceLT, Int.reduceEq, Nat.reduceBEq, Nat.reduceEqDiff, restR_n, restR_r, rest2R_n, g.1, g.2.1, g.2.2, TX.cells]
      intro σ1 w1 a1 hI1 hR1 hd1 hX1
      refine range_al (K := K) (fn := Try.f17) st.length (st.length + 1) x.pid x.pver n x.mids x.maps cs (i64 0) (i64 0) hI1 hR1 hd1 hX1 rfl rfl rfl rfl rfl b6 b7 hn67 hp hle htk hT.maps h1 (by omega) ?_ ?_
      · intro hnone
        have htop : topGet x.abs.maps n = none := topGet_none fun j hj => hnone j (by rw [hT.len] at hj; exact hj)
        have f0 : inS s0 E.id = True ∧ isObj s0 E.id = True ∧ objAt s0 E.id = i64 E.clock :: .arr E.vid E.vver E.vars.length :: E.txs.map txSV := cells_facts hE0.cells
        have w0' := arr_facts hE0.vars
        have hxr : x.id ≠ x.rid := fun e => by have := hT.cells; rw [e, hT.tok] at this; cases this
        have hrx := hxr.symm
        have happ := app_i64s (n := x.reads.length + 1) (by have := (hF.reads _ x htx).2.1; omega)
        have tk := tokAt_eq (v' := x.rver) hT.tok
        have hcont := contains_c (st := s0) (.own x.rid x.rver) (l := x.reads) (by have := (hF.reads _ x htx).2.1; omega) n
        have hbb := hb
        unfold EG.is at hbb
        simp only [Bool.and_eq_true, decide_eq_true_eq] at hbb
        simp only [Option.map_some, if_true, htop] at h
        have hlook : ∀ K : SV → St → Prop, K (i64 (lookF t x.start (E.vars.getD n.toNat default))) s0 → ACalls Try.prog 51 [.ptr E.id 0, i64 t, .ptr x.id 0, i64 n] K s0 := look_c hE0 t n x hT.cells hbb
        have hh : ∀ s E', EngAt s E' → Fr st E s E' → E'.abs = (if lookF t x.start (E.vars.getD n.toNat default) ≠ 0 then (((0, lookF t x.start (E.vars.getD n.toNat default)), E.abs) : (Int × Int) × EP) else
          (((E.vars.getD n.toNat default).val, 0), if n ∈ x.reads then E.abs else E.abs.put t { x.abs with reads := x.reads ++ [n] })).2 →
          K (.tuple [i64 (if lookF t x.start (E.vars.getD n.toNat default) ≠ 0 then (((0, lookF t x.start (E.vars.getD n.toNat default)), E.abs) : (Int × Int) × EP) else
          (((E.vars.getD n.toNat default).val, 0), if n ∈ x.reads then E.abs else E.abs.put t { x.abs with reads := x.reads ++ [n] })).1.1, i64 (if lookF t x.start (E.vars.getD n.toNat default) ≠ 0 then (((0, lookF t x.start (E.vars.getD n.toNat default)), E.abs) : (Int × Int) × EP) else
          (((E.vars.getD n.toNat default).val, 0), if n ∈ x.reads then E.abs else E.abs.put t { x.abs with reads := x.reads ++ [n] })).1.2]) s := h
        clear h
        have h := hh
        clear hh
        obtain ⟨c0, hc0⟩ : ∃ c0, c0 = lookF t x.start (E.vars.getD n.toNat default) := ⟨_, rfl⟩
        obtain ⟨y, hy⟩ : ∃ y, y = E.vars.getD n.toNat default := ⟨_, rfl⟩
        rw [← hc0] at h hlook
        rw [← hy] at h
        have hv := vars_drop (l := E.vars) (n := n.toNat) (by omega)
        rw [← hy] at hv
        refine (awp_c (M := []) ?_).mono fun e env st hq => retR_q (rs := #[ResultVar.cell 6 3, ResultVar.cell 7 27]) Try.results17 hq
        simp only [txSV, go_sem, reduceCtorEq, Nat.reduceAdd, Nat.reduceMul, Nat.reduceLeDiff, Nat.reduceLT, Int.reduceLE, Int.reduceLT, Int.reduceEq, Nat.reduceBEq, Nat.reduceEqDiff, restR_n, restR_r, rest2R_n, g.1, g.2.1, g.2.2, TX.cells]
        refine hlook _ ?_
        simp only [txSV, go_sem, reduceCtorEq, Nat.reduceAdd, Nat.reduceMul, Nat.reduceLeDiff, Nat.reduceLT, Int.reduceLE, Int.reduceLT, Int.reduceEq, Nat.reduceBEq, Nat.reduceEqDiff, restR_n, restR_r, rest2R_n, g.1, g.2.1, g.2.2, TX.cells, g6.1, g6.2.1, g6.2.2, g7.1, g7.2.1, g7.2.2, hn67, hn76]
        refine ⟨fun c => ?_, fun c => ?_⟩
        · rw [if_pos (by simpa using c)] at h
          exact h _ _ (hkeep 0 c0).1 (hkeep 0 c0).2 rfl
        · rw [if_neg (by simpa using c)] at h
          refine awp_draw [] Try.mixed rfl ?_
          simp only [txSV, go_sem, reduceCtorEq, Nat.reduceAdd, Nat.reduceMul, Nat.reduceLeDiff, Nat.reduceLT, Int.reduceLE, Int.reduceLT, Int.reduceEq, Nat.reduceBEq, Nat.reduceEqDiff, restR_n, restR_r, rest2R_n, g.1, g.2.1, g.2.2, TX.cells]
          refine ⟨.sc (.bool (containsF x.reads n)), ?_, ?_⟩
          · simp only [txSV, go_sem, reduceCtorEq, Nat.reduceAdd, Nat.reduceMul, Nat.reduceLeDiff, Nat.reduceLT, Int.reduceLE, Int.reduceLT, Int.reduceEq, Nat.reduceBEq, Nat.reduceEqDiff, g.1, g.2.1, g.2.2, TX.cells]
            refine hcont _ ?_
            simp only [go_sem, reduceCtorEq, Nat.reduceAdd, Nat.reduceMul, Nat.reduceLeDiff, Nat.reduceLT, Int.reduceLE, Int.reduceLT, Int.reduceEq, Nat.reduceBEq, Nat.reduceEqDiff]
            exact ⟨⟨[], by simp⟩, .sc _, .inl rfl⟩
          simp only [go_sem, reduceCtorEq, Nat.reduceAdd, Nat.reduceMul, Nat.reduceLeDiff, Nat.reduceLT, Int.reduceLE, Int.reduceLT, Int.reduceEq, Nat.reduceBEq, Nat.reduceEqDiff]
          refine ⟨fun d => ?_, fun d => ?_⟩
          · have hnr : n ∉ x.reads := by simpa [containsF] using d
            rw [if_neg hnr] at h
            obtain ⟨s2, hs2⟩ : ∃ s2, s2 = (s0.set x.rid (.tok (x.rver + 1))).set x.id (.cells (x.addRead n).cells) := ⟨_, rfl⟩
            refine awp_drawD [] [7, 10] [([], s0), ([7], s0.set x.rid (.tok (x.rver + 1))), ([7, 10], (s0.set x.rid (.tok (x.rver + 1))).set x.id (.cells (x.addRead n).cells))] [[[], [7]], [[]], [[]], [[]], [[]], [[]], [[]], [[]], [[7]], [[7]], [[7]]] Try.mixed rfl rfl rfl rfl rfl ?_
            refine dD_pA rfl (.ptr x.id 0) (by simp only [go_sem, reduceCtorEq, Nat.reduceAdd, Nat.reduceMul, Nat.reduceLeDiff, Nat.reduceLT, Int.reduceLE, Int.reduceLT, Int.reduceEq, Nat.reduceBEq, Nat.reduceEqDiff, look_c, eqN_nil, eqN_l, eqN_r, eqN_c, forall_cs, forall_nl]) ?_
            refine dD_pA rfl (.ptr x.id 0) (by simp only [go_sem, reduceCtorEq, Nat.reduceAdd, Nat.reduceMul, Nat.reduceLeDiff, Nat.reduceLT, Int.reduceLE, Int.reduceLT, Int.reduceEq, Nat.reduceBEq, Nat.reduceEqDiff, look_c, eqN_nil, eqN_l, eqN_r, eqN_c, forall_cs, forall_nl]) ?_
            refine dD_pA rfl (.ptr x.id 0) (by simp only [go_sem, reduceCtorEq, Nat.reduceAdd, Nat.reduceMul, Nat.reduceLeDiff, Nat.reduceLT, Int.reduceLE, Int.reduceLT, Int.reduceEq, Nat.reduceBEq, Nat.reduceEqDiff, look_c, eqN_nil, eqN_l, eqN_r, eqN_c, forall_cs, forall_nl]) ?_
            refine dD_pA rfl (.ptr x.id 2) (by simp only [go_sem, reduceCtorEq, Nat.reduceAdd, Nat.reduceMul, Nat.reduceLeDiff, Nat.reduceLT, Int.reduceLE, Int.reduceLT, Int.reduceEq, Nat.reduceBEq, Nat.reduceEqDiff, look_c, eqN_nil, eqN_l, eqN_r, eqN_c, forall_cs, forall_nl]) ?_
            refine dD_pA rfl (.slice (.own x.rid x.rver) 1 (x.reads.map i64)) (by simp only [go_sem, reduceCtorEq, Nat.reduceAdd, Nat.reduceMul, Nat.reduceLeDiff, Nat.reduceLT, Int.reduceLE, Int.reduceLT, Int.reduceEq, Nat.reduceBEq, Nat.reduceEqDiff, look_c, eqN_nil, eqN_l, eqN_r, eqN_c, forall_cs, forall_nl, g.1, g.2.1, g.2.2, TX.cells]) ?_
            refine dD_pA rfl (i64 n) (by simp only [go_sem, reduceCtorEq, Nat.reduceAdd, Nat.reduceMul, Nat.reduceLeDiff, Nat.reduceLT, Int.reduceLE, Int.reduceLT, Int.reduceEq, Nat.reduceBEq, Nat.reduceEqDiff, look_c, eqN_nil, eqN_l, eqN_r, eqN_c, forall_cs, forall_nl]) ?_
            refine dD_pA rfl (.slice .full 1 [i64 n]) (by simp only [go_sem, reduceCtorEq, Nat.reduceAdd, Nat.reduceMul, Nat.reduceLeDiff, Nat.reduceLT, Int.reduceLE, Int.reduceLT, Int.reduceEq, Nat.reduceBEq, Nat.reduceEqDiff, look_c, eqN_nil, eqN_l, eqN_r, eqN_c, forall_cs, forall_nl]; refine ⟨_, ?_, rfl⟩; simp only [go_sem, reduceCtorEq, Nat.reduceAdd, Nat.reduceMul, Nat.reduceLeDiff, Nat.reduceLT, Int.reduceLE, Int.reduceLT, Int.reduceEq, Nat.reduceBEq, Nat.reduceEqDiff]; exact ⟨⟨[], by simp⟩, ids_full1 _ _, .inl rfl⟩) ?_
            refine dD_t1 (d := [7]) rfl rfl (.slice (.own x.rid (x.rver + 1)) 1 (x.reads.map i64 ++ [i64 n])) rfl (by simp only [go_sem, reduceCtorEq, Nat.reduceAdd, Nat.reduceMul, Nat.reduceLeDiff, Nat.reduceLT, Int.reduceLE, Int.reduceLT, Int.reduceEq, Nat.reduceBEq, Nat.reduceEqDiff, look_c, eqN_nil, eqN_l, eqN_r, eqN_c, forall_cs, forall_nl, tk]; exact happ) ?_
            refine dD_pA rfl (.ptr x.id 0) (by simp only [go_sem, reduceCtorEq, Nat.reduceAdd, Nat.reduceMul, Nat.reduceLeDiff, Nat.reduceLT, Int.reduceLE, Int.reduceLT, Int.reduceEq, Nat.reduceBEq, Nat.reduceEqDiff, look_c, eqN_nil, eqN_l, eqN_r, eqN_c, forall_cs, forall_nl]) ?_
            refine dD_pA rfl (.ptr x.id 2) (by simp only [go_sem, reduceCtorEq, Nat.reduceAdd, Nat.reduceMul, Nat.reduceLeDiff, Nat.reduceLT, Int.reduceLE, Int.reduceLT, Int.reduceEq, Nat.reduceBEq, Nat.reduceEqDiff, look_c, eqN_nil, eqN_l, eqN_r, eqN_c, forall_cs, forall_nl]) ?_
            refine dD_t1 (d := [7, 10]) rfl rfl .any rfl (by simp only [go_sem, reduceCtorEq, Nat.reduceAdd, Nat.reduceMul, Nat.reduceLeDiff, Nat.reduceLT, Int.reduceLE, Int.reduceLT, Int.reduceEq, Nat.reduceBEq, Nat.reduceEqDiff, look_c, eqN_nil, eqN_l, eqN_r, eqN_c, forall_cs, forall_nl, g.1, g.2.1, g.2.2, TX.cells, tk, hrx, hxr]; simp only [TX.addRead, List.map_append]; rfl) ?_
            refine dD_end ?_
            have hT0 := hE.tx _ x htx
            have hl1 := lt_of_get hT0.cells
            have hl2 := lt_of_get hT0.tok
            have hk2 : ∀ (a b : Int), EngAt ((s2.set st.length (.cells [i64 a])).set (st.length + 1) (.cells [i64 b])) (E.setTx t.toNat (x.addRead n)) ∧ Fr st E ((s2.set st.length (.cells [i64 a])).set (st.length + 1) (.cells [i64 b])) (E.setTx t.toNat (x.addRead n)) := by
              intro a b
              refine addRead_eng hE ht htx n (by rw [hs2, hs0]; simp) fun j hj => ?_
              rw [List.getElem?_set_ne (by omega), List.getElem?_set_ne (by omega), hs2, hs0, List.set_append_left _ _ hl2, List.set_append_left _ _ (by simpa using hl1), List.getElem?_append_left (by simpa using hj)]
            have hE2 := addRead_eng (s := s2) hE ht htx n (by rw [hs2, hs0]; simp) fun j hj => by
              rw [hs2, hs0, List.set_append_left _ _ hl2, List.set_append_left _ _ (by simpa using hl1), List.getElem?_append_left (by simpa using hj)]
            have f2 : inS s2 E.id = True ∧ isObj s2 E.id = True ∧ objAt s2 E.id = i64 E.clock :: .arr E.vid E.vver E.vars.length :: (E.txs.set t.toNat (some (x.addRead n))).map txSV := cells_facts hE2.1.cells
            have w2' : inS s2 E.vid = True ∧ arrOk s2 E.vid E.vver = True ∧ arrZ s2 E.vid = 3 ∧ arrC s2 E.vid = E.vars.flatMap tvSV := arr_facts hE2.1.vars
            have k6 := cells_facts (show s2[st.length]? = some (.cells [i64 0]) by rw [hs2, List.getElem?_set_ne (by omega), List.getElem?_set_ne (by omega)]; exact b6)
            have k7 := cells_facts (show s2[st.length + 1]? = some (.cells [i64 0]) by rw [hs2, List.getElem?_set_ne (by omega), List.getElem?_set_ne (by omega)]; exact b7)
            have hfin : K (.tuple [i64 y.val, i64 0]) ((s2.set st.length (.cells [i64 y.val])).set (st.length + 1) (.cells [i64 0])) := h _ _ (hk2 y.val 0).1 (hk2 y.val 0).2 (abs_put E t _)
            rw [← hs2]
            simp only [go_sem, reduceCtorEq, Nat.reduceAdd, Nat.reduceMul, Nat.reduceLeDiff, Nat.reduceLT, Int.reduceLE, Int.reduceLT, Int.reduceEq, Nat.reduceBEq, Nat.reduceEqDiff]
            refine awp_drawD [] [8, 9] [([], s2), ([8], s2.set st.length (.cells [i64 y.val])), ([8, 9], (s2.set st.length (.cells [i64 y.val])).set (st.length + 1) (.cells [i64 0]))] [[[]], [[]], [[]], [[]], [[]], [[]], [[]], [[]], [[]], [[8]]] Try.mixed rfl rfl rfl rfl rfl ?_
            refine dD_pA rfl (.ptr E.id 0) (by simp only [go_sem, reduceCtorEq, Nat.reduceAdd, Nat.reduceMul, Nat.reduceLeDiff, Nat.reduceLT, Int.reduceLE, Int.reduceLT, Int.reduceEq, Nat.reduceBEq, Nat.reduceEqDiff, look_c, eqN_nil, eqN_l, eqN_r, eqN_c, forall_cs, forall_nl]) ?_
            refine dD_pA rfl (.ptr E.id 0) (by simp only [go_sem, reduceCtorEq, Nat.reduceAdd, Nat.reduceMul, Nat.reduceLeDiff, Nat.reduceLT, Int.reduceLE, Int.reduceLT, Int.reduceEq, Nat.reduceBEq, Nat.reduceEqDiff, look_c, eqN_nil, eqN_l, eqN_r, eqN_c, forall_cs, forall_nl]) ?_
            refine dD_pA rfl (.ptr E.id 1) (by simp only [go_sem, reduceCtorEq, Nat.reduceAdd, Nat.reduceMul, Nat.reduceLeDiff, Nat.reduceLT, Int.reduceLE, Int.reduceLT, Int.reduceEq, Nat.reduceBEq, Nat.reduceEqDiff, look_c, eqN_nil, eqN_l, eqN_r, eqN_c, forall_cs, forall_nl]) ?_
            refine dD_pA rfl (.arr E.vid E.vver E.vars.length) (by simp only [go_sem, reduceCtorEq, Nat.reduceAdd, Nat.reduceMul, Nat.reduceLeDiff, Nat.reduceLT, Int.reduceLE, Int.reduceLT, Int.reduceEq, Nat.reduceBEq, Nat.reduceEqDiff, look_c, eqN_nil, eqN_l, eqN_r, eqN_c, forall_cs, forall_nl, f2.1, f2.2.1, f2.2.2]) ?_
            refine dD_pA rfl (i64 n) (by simp only [go_sem, reduceCtorEq, Nat.reduceAdd, Nat.reduceMul, Nat.reduceLeDiff, Nat.reduceLT, Int.reduceLE, Int.reduceLT, Int.reduceEq, Nat.reduceBEq, Nat.reduceEqDiff, look_c, eqN_nil, eqN_l, eqN_r, eqN_c, forall_cs, forall_nl]) ?_
            refine dD_pA rfl (.aptr E.vid E.vver (n.toNat * 3)) (by simp only [go_sem, reduceCtorEq, Nat.reduceAdd, Nat.reduceMul, Nat.reduceLeDiff, Nat.reduceLT, Int.reduceLE, Int.reduceLT, Int.reduceEq, Nat.reduceBEq, Nat.reduceEqDiff, look_c, eqN_nil, eqN_l, eqN_r, eqN_c, forall_cs, forall_nl, w2'.1, w2'.2.1, w2'.2.2.1, w2'.2.2.2, hbb.1, hbb.2]) ?_
            refine dD_pA rfl (.aptr E.vid E.vver (n.toNat * 3)) (by simp only [go_sem, reduceCtorEq, Nat.reduceAdd, Nat.reduceMul, Nat.reduceLeDiff, Nat.reduceLT, Int.reduceLE, Int.reduceLT, Int.reduceEq, Nat.reduceBEq, Nat.reduceEqDiff, look_c, eqN_nil, eqN_l, eqN_r, eqN_c, forall_cs, forall_nl, w2'.1, w2'.2.1, w2'.2.2.1, w2'.2.2.2]) ?_
            refine dD_pA rfl (i64 y.val) (by simp only [go_sem, reduceCtorEq, Nat.reduceAdd, Nat.reduceMul, Nat.reduceLeDiff, Nat.reduceLT, Int.reduceLE, Int.reduceLT, Int.reduceEq, Nat.reduceBEq, Nat.reduceEqDiff, look_c, eqN_nil, eqN_l, eqN_r, eqN_c, forall_cs, forall_nl, w2'.1, w2'.2.1, w2'.2.2.1, w2'.2.2.2, hv]) ?_
            refine dD_t1 (d := [8]) rfl rfl .any rfl (by simp only [go_sem, reduceCtorEq, Nat.reduceAdd, Nat.reduceMul, Nat.reduceLeDiff, Nat.reduceLT, Int.reduceLE, Int.reduceLT, Int.reduceEq, Nat.reduceBEq, Nat.reduceEqDiff, look_c, eqN_nil, eqN_l, eqN_r, eqN_c, forall_cs, forall_nl, k6.1, k6.2.1, k6.2.2]) ?_
            refine dD_t1 (d := [8, 9]) rfl rfl .any rfl (by simp only [go_sem, reduceCtorEq, Nat.reduceAdd, Nat.reduceMul, Nat.reduceLeDiff, Nat.reduceLT, Int.reduceLE, Int.reduceLT, Int.reduceEq, Nat.reduceBEq, Nat.reduceEqDiff, look_c, eqN_nil, eqN_l, eqN_r, eqN_c, forall_cs, forall_nl, k6.1, k7.1, k7.2.1, k7.2.2, hn67, hn76]) ?_
            refine dD_end ?_
            simp only [go_sem, reduceCtorEq, Nat.reduceAdd, Nat.reduceMul, Nat.reduceLeDiff, Nat.reduceLT, Int.reduceLE, Int.reduceLT, Int.reduceEq, Nat.reduceBEq, Nat.reduceEqDiff, k6.1, k7.1, k7.2.1, k7.2.2, hn67, hn76]
            exact hfin
          · have hnr : n ∈ x.reads := by simpa [containsF] using d
            rw [if_pos hnr] at h
            refine awp_drawD [] [8, 9] [([], s0), ([8], s0.set st.length (.cells [i64 y.val])), ([8, 9], (s0.set st.length (.cells [i64 y.val])).set (st.length + 1) (.cells [i64 0]))] [[[]], [[]], [[]], [[]], [[]], [[]], [[]], [[]], [[]], [[8]]] Try.mixed rfl rfl rfl rfl rfl ?_
            refine dD_pA rfl (.ptr E.id 0) (by simp only [go_sem, reduceCtorEq, Nat.reduceAdd, Nat.reduceMul, Nat.reduceLeDiff, Nat.reduceLT, Int.reduceLE, Int.reduceLT, Int.reduceEq, Nat.reduceBEq, Nat.reduceEqDiff, look_c, eqN_nil, eqN_l, eqN_r, eqN_c, forall_cs, forall_nl]) ?_
            refine dD_pA rfl (.ptr E.id 0) (by simp only [go_sem, reduceCtorEq, Nat.reduceAdd, Nat.reduceMul, Nat.reduceLeDiff, Nat.reduceLT, Int.reduceLE, Int.reduceLT, Int.reduceEq, Nat.reduceBEq, Nat.reduceEqDiff, look_c, eqN_nil, eqN_l, eqN_r, eqN_c, forall_cs, forall_nl]) ?_
            refine dD_pA rfl (.ptr E.id 1) (by simp only [go_sem, reduceCtorEq, Nat.reduceAdd, Nat.reduceMul, Nat.reduceLeDiff, Nat.reduceLT, Int.reduceLE, Int.reduceLT, Int.reduceEq, Nat.reduceBEq, Nat.reduceEqDiff, look_c, eqN_nil, eqN_l, eqN_r, eqN_c, forall_cs, forall_nl]) ?_
            refine dD_pA rfl (.arr E.vid E.vver E.vars.length) (by simp only [go_sem, reduceCtorEq, Nat.reduceAdd, Nat.reduceMul, Nat.reduceLeDiff, Nat.reduceLT, Int.reduceLE, Int.reduceLT, Int.reduceEq, Nat.reduceBEq, Nat.reduceEqDiff, look_c, eqN_nil, eqN_l, eqN_r, eqN_c, forall_cs, forall_nl, f0.1, f0.2.1, f0.2.2]) ?_
            refine dD_pA rfl (i64 n) (by simp only [go_sem, reduceCtorEq, Nat.reduceAdd, Nat.reduceMul, Nat.reduceLeDiff, Nat.reduceLT, Int.reduceLE, Int.reduceLT, Int.reduceEq, Nat.reduceBEq, Nat.reduceEqDiff, look_c, eqN_nil, eqN_l, eqN_r, eqN_c, forall_cs, forall_nl]) ?_
            refine dD_pA rfl (.aptr E.vid E.vver (n.toNat * 3)) (by simp only [go_sem, reduceCtorEq, Nat.reduceAdd, Nat.reduceMul, Nat.reduceLeDiff, Nat.reduceLT, Int.reduceLE, Int.reduceLT, Int.reduceEq, Nat.reduceBEq, Nat.reduceEqDiff, look_c, eqN_nil, eqN_l, eqN_r, eqN_c, forall_cs, forall_nl, w0'.1, w0'.2.1, w0'.2.2.1, w0'.2.2.2, hbb.1, hbb.2]) ?_
            refine dD_pA rfl (.aptr E.vid E.vver (n.toNat * 3)) (by simp only [go_sem, reduceCtorEq, Nat.reduceAdd, Nat.reduceMul, Nat.reduceLeDiff, Nat.reduceLT, Int.reduceLE, Int.reduceLT, Int.reduceEq, Nat.reduceBEq, Nat.reduceEqDiff, look_c, eqN_nil, eqN_l, eqN_r, eqN_c, forall_cs, forall_nl, w0'.1, w0'.2.1, w0'.2.2.1, w0'.2.2.2]) ?_
            refine dD_pA rfl (i64 y.val) (by simp only [go_sem, reduceCtorEq, Nat.reduceAdd, Nat.reduceMul, Nat.reduceLeDiff, Nat.reduceLT, Int.reduceLE, Int.reduceLT, Int.reduceEq, Nat.reduceBEq, Nat.reduceEqDiff, look_c, eqN_nil, eqN_l, eqN_r, eqN_c, forall_cs, forall_nl, w0'.1, w0'.2.1, w0'.2.2.1, w0'.2.2.2, hv]) ?_
            refine dD_t1 (d := [8]) rfl rfl .any rfl (by simp only [go_sem, reduceCtorEq, Nat.reduceAdd, Nat.reduceMul, Nat.reduceLeDiff, Nat.reduceLT, Int.reduceLE, Int.reduceLT, Int.reduceEq, Nat.reduceBEq, Nat.reduceEqDiff, look_c, eqN_nil, eqN_l, eqN_r, eqN_c, forall_cs, forall_nl, g6.1, g6.2.1, g6.2.2]) ?_
            refine dD_t1 (d := [8, 9]) rfl rfl .any rfl (by simp only [go_sem, reduceCtorEq, Nat.reduceAdd, Nat.reduceMul, Nat.reduceLeDiff, Nat.reduceLT, Int.reduceLE, Int.reduceLT, Int.reduceEq, Nat.reduceBEq, Nat.reduceEqDiff, look_c, eqN_nil, eqN_l, eqN_r, eqN_c, forall_cs, forall_nl, g6.1, g7.1, g7.2.1, g7.2.2, hn67, hn76]) ?_
            refine dD_end ?_
            simp only [go_sem, reduceCtorEq, Nat.reduceAdd, Nat.reduceMul, Nat.reduceLeDiff, Nat.reduceLT, Int.reduceLE, Int.reduceLT, Int.reduceEq, Nat.reduceBEq, Nat.reduceEqDiff, g6.1, g7.1, g7.2.1, g7.2.2, hn67, hn76]
            exact h _ _ (hkeep y.val 0).1 (hkeep y.val 0).2 rfl
      · intro v j hj hv hrest
        refine retR_q (rs := #[ResultVar.cell 6 3, ResultVar.cell 7 27]) Try.results17 ?_
        simp only [txSV, go_sem, reduceCtorEq, Nat.reduceAdd, Nat.reduceMul, Nat.reduceLeDiff, Nat.reduceLT, Int.reduceLE, Int.reduceLT, Int.reduceEq, Nat.reduceBEq, Nat.reduceEqDiff, restR_n, restR_r, rest2R_n, g.1, g.2.1, g.2.2, TX.cells, g6.1, g6.2.1, g6.2.2, g7.1, g7.2.1, g7.2.2, hn67, hn76]
        have htop : topGet x.abs.maps n = some v := topGet_some (by rw [hT.len]; exact hj) hv (fun i z1 z2 => hrest i z1 (by rw [hT.len] at z2; exact z2))
        simp only [Option.map_some, if_true, htop] at h
        exact h _ _ (hkeep v 0).1 (hkeep v 0).2 rfl

end Go.Proofs
set_option linter.unusedSimpArgs false
set_option linter.unusedVariables false
set_option maxRecDepth 8000
namespace Go.Proofs
open Go Go.AL

theorem same_drop {l r : List Int} {k : Nat} (hl : k < l.length) (hr : k < r.length) : (l.drop k = r.drop k) = (l.getD k 0 = r.getD k 0 ∧ l.drop (k + 1) = r.drop (k + 1)) := by
  rw [drop_i64 hl, drop_i64 hr, List.cons.injEq]

theorem same_c {st : St} (m m' : AL.Mode) {l r : List Int} (hl : l.length ≤ 1000000) (hr : r.length ≤ 1000000) (K : SV → St → Prop) (h : K (.sc (.bool (decide (l = r)))) st) : ACalls Try.prog 32 [.slice m 1 (l.map i64), .slice m' 1 (r.map i64)] K st := by
  refine acalls_go_pure [] Try.func32 rfl Try.results32 Try.ntmps32 ?_
  by_cases hlen : l.length = r.length
  · have c0 : (((l.length : Nat) : Int) != ((r.length : Nat) : Int)) = false := by simp [hlen]
    have c00 : ((l.length : Int) = (r.length : Int)) = True := eq_true (by omega)
    simp only [go_sem, reduceCtorEq, Nat.reduceAdd, Nat.reduceMul, Nat.reduceLeDiff, Nat.reduceLT, Int.reduceLE, Int.reduceLT, Int.reduceEq, Nat.reduceBEq, Nat.reduceEqDiff, c0, c00]
    refine awp_rounds [] (fun q e s => ∃ (k : Nat), k + q = l.length ∧ (decide (l = r) = decide (l.drop k = r.drop k)) ∧ e = [.slice m 1 (l.map i64), .slice m' 1 (r.map i64), .any, .any, .any, i64 k, .any, .any, .any, .any, .any, .any, .any, .any, .any, .any, .any, .any, .any, .any, .any, .any, .any, .any, .any, .any] ∧ s = st) (n := l.length) ?_ ⟨0, by omega, by simp, rfl, rfl⟩ ?_
    · repeat (first | exact leEnv_nil | refine leEnv_any _ ?_ | refine leEnv_same _ ?_ | refine leEnv_norm _ ?_)
    rintro q e s ⟨k, hkm, hv, rfl, rfl⟩
    by_cases hlt : k < l.length
    · have c1 : (k : Int) < (l.length : Int) := by omega
      have c3 : (k : Int) < (r.length : Int) := by omega
      have c2 : (0 : Int) ≤ (k : Int) := by omega
      have hw := wrapS k (by omega)
      have hlr : k < r.length := by omega
      simp only [same_drop hlt hlr] at hv
      obtain ⟨a, ha⟩ : ∃ a, a = l.getD k 0 := ⟨_, rfl⟩
      obtain ⟨b, hb⟩ : ∃ b, b = r.getD k 0 := ⟨_, rfl⟩
      rw [← ha, ← hb] at hv
      simp only [go_sem, reduceCtorEq, Nat.reduceAdd, Nat.reduceMul, Nat.reduceLeDiff, Nat.reduceLT, Int.reduceLE, Int.reduceLT, Int.reduceEq, Nat.reduceBEq, Nat.reduceEqDiff, c1, c2]
      refine awp_draw [] Try.mixed rfl ?_
      simp only [go_sem, reduceCtorEq, Nat.reduceAdd, Nat.reduceMul, Nat.reduceLeDiff, Nat.reduceLT, Int.reduceLE, Int.reduceLT, Int.reduceEq, Nat.reduceBEq, Nat.reduceEqDiff, c1, c2, c3, getD_i64 hlt, getD_i64 hlr, Int.toNat_natCast]
      rw [← ha, ← hb]
      refine ⟨fun c => ?_, fun c => ?_⟩
      · have hab : ¬ a = b := by simpa using c
        simp only [hab, false_and, decide_false] at hv
        rw [hv] at h
        exact fin_sc h
      · have hab : a = b := by simpa using c
        simp only [hab, true_and] at hv
        simp only [go_sem, reduceCtorEq, Nat.reduceAdd, Nat.reduceMul, Nat.reduceLeDiff, Nat.reduceLT, Int.reduceLE, Int.reduceLT, Int.reduceEq, Nat.reduceBEq, Nat.reduceEqDiff, hw]
        refine ⟨q - 1, _, by omega, ?_, k + 1, by omega, hv, rfl⟩
        repeat (first | exact leEnv_nil | refine leEnv_any _ ?_ | refine leEnv_same _ ?_ | refine leEnv_norm _ ?_)
    · obtain rfl : k = l.length := by omega
      rw [List.drop_length, show r.drop l.length = [] by rw [hlen, List.drop_length]] at hv
      simp only [go_sem, reduceCtorEq, Nat.reduceAdd, Nat.reduceMul, Nat.reduceLeDiff, Nat.reduceLT, Int.reduceLE, Int.reduceLT, Int.reduceEq, Nat.reduceBEq, Nat.reduceEqDiff, Int.lt_irrefl]
      rw [hv] at h
      exact fin_sc (by simpa using h)
  · have hne : ¬ l = r := fun e => hlen (by rw [e])
    simp only [hne, decide_false] at h
    simp only [go_sem, reduceCtorEq, Nat.reduceAdd, Nat.reduceMul, Nat.reduceLeDiff, Nat.reduceLT, Int.reduceLE, Int.reduceLT, Int.reduceEq, Nat.reduceBEq, Nat.reduceEqDiff]
    refine ⟨fun _ => fin_sc h, fun e => ?_⟩
    have h9 : (l.length : Int) = (r.length : Int) := by simpa using e
    exact absurd (Int.ofNat.inj h9) hlen

end Go.Proofs
set_option linter.unusedSimpArgs false
set_option linter.unusedVariables false
set_option maxRecDepth 8000
namespace Go.Proofs
open Go Go.AL

def EP.new : EP := ⟨0, [], List.replicate 8 none⟩
def EG.new (n : Nat) : EG := ⟨n, n + 1, 0, 0, [], List.replicate 8 none⟩

theorem new_at (st : St) (s : St) (h1 : s[st.length]? = some (.cells (EG.new st.length).cells)) (h2 : s[st.length + 1]? = some (.arr 0 3 [])) : EngAt s (EG.new st.length) := by
  have hn : ∀ (t : Nat) (x : TX), (EG.new st.length).txs[t]? = some (some x) → False := by
    intro t x hx
    simp only [EG.new, List.getElem?_replicate] at hx
    split at hx <;> cases hx
  exact ⟨h1, h2, rfl, by simp [EG.new], fun t x hx => (hn t x hx).elim, fun t t' x x' hx => (hn t x hx).elim, fun t x hx => (hn t x hx).elim⟩

theorem new_c {st : St} (K : SV → St → Prop) (h : ∀ s, EngAt s (EG.new st.length) → (∀ j, j < st.length → s[j]? = st[j]?) → st.length ≤ s.length → K (.ptr st.length 0) s) : ACalls Try.prog 42 [] K st := by
  refine acalls_conv ?_
  refine acalls_go (M := [2]) Try.func42 rfl Try.results42 Try.ntmps42 ?_
  simp only [go_sem, reduceCtorEq, Nat.reduceAdd, Nat.reduceMul, Nat.reduceLeDiff, Nat.reduceLT, Int.reduceLE, Int.reduceLT, Int.reduceEq, Nat.reduceBEq, Nat.reduceEqDiff]
  have h0 : (st ++ [Ob.cells (i64 0 :: .slice .full 0 [] :: List.replicate 8 (.sc (.pointer none)))])[st.length]? = some (.cells (i64 0 :: .slice .full 0 [] :: List.replicate 8 (.sc (.pointer none)))) := by simp
  have c1 := conv_arrC st.length 1 3 0 h0 (by simp) rfl
  refine ⟨_, c1, ?_⟩
  generalize hs : List.set _ _ _ ++ [Ob.arr 0 3 []] = s
  have e : s = st ++ [Ob.cells (EG.new st.length).cells, Ob.arr 0 3 []] := by
    rw [← hs, List.set_append_right _ _ (Nat.le_refl _), Nat.sub_self, List.append_assoc]
    simp [EG.new, EG.cells, txSV]
  refine h s (new_at st s (by rw [e]; simp) (by rw [e, List.getElem?_append_right (by omega)]; simp)) (fun j hj => by rw [e, List.getElem?_append_left hj]) (by rw [e]; simp)

end Go.Proofs
