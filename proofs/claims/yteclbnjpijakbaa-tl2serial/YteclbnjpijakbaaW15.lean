/- The engine: Read; its range over the maps from above. -/
import Derived.Test.YteclbnjpijakbaaW14
set_option linter.unusedVariables false
namespace Go.Proofs
open Go Go.RowKit Go.Shelf
attribute [local go_sem] Oper.semAt_some

/-- The range as code. -/
noncomputable def readRange : Code := match Try.f17.body with
  | some (.seq _ (.seq _ (.seq _ (.seq (.seq _ c) _)))) => c
  | _ => .skip

theorem mem_downTo {k m i : Nat} (h1 : i < k) (h2 : k - 1 - i < m) : i ∈ downTo k m := List.mem_map.2 ⟨k - 1 - i, List.mem_range.2 h2, by omega⟩

theorem below_setCell {n : Nat} {w W : World} (h : Below n w W) (a : Addr) (v : Value) : Below n (w.setCell a v) (W.setCell a v) := by
  refine ⟨h.os, h.tape, h.output, by simpa using h.size, fun k hk => ?_⟩
  have := h.block k hk
  unfold World.setCell
  simp only [Array.getElem?_modify, this]

theorem below_cell {w W : World} (h : Below w.heap.size w W) {a : Addr} {v : Value} (hc : w.cell? a = some v) : W.cell? a = some v := by
  have hlt : a.block < w.heap.size := by
    unfold World.cell? at hc
    cases hx : w.heap[a.block]? with
    | none => rw [hx] at hc; simp at hc
    | some o => exact (Array.getElem?_eq_some_iff.1 hx).1
  exact (h.cell hlt).trans hc

set_option maxRecDepth 100000 in
set_option maxHeartbeats 4000000 in
theorem range_wp (w : World) (u : Nat → Value) (B5 o5 B6 B7 Bs bo b cap k : Nat) (mb : Nat → Nat) (n : Int) (lk : Nat → Option Int) (Q : Exit → Act → World → Prop)
    (h5 : w.cell? ⟨B5, o5, none⟩ = some (.int .i64 n)) (x6 x7 : Value) (T6 T7 : TypeId) (h6 : w.heap[B6]? = some (.cells #[x6] T6 (0, 0))) (h7 : w.heap[B7]? = some (.cells #[x7] T7 (0, 0))) (h67 : B6 ≠ B7) (hk1 : 1 ≤ k) (hk : k ≤ 1000000)
    (hs : w.cell? ⟨Bs, bo, none⟩ = some (.slice (some ⟨b, 0, none⟩) k cap)) (hBs : Bs < w.heap.size) (hb : b < w.heap.size) (hc : ∀ j, j < k → w.cell? ⟨b, 0 + j, none⟩ = some (.map (some (mb j))))
    (hl : ∀ j W, Below w.heap.size w W → (Instr.lookup 92 (.map (some (mb j))) (.int .i64 n) true).run Try.prog W = .ok (.tuple #[.int .i64 ((lk j).getD 0), .bool (lk j).isSome]) W)
    (hnone : ∀ D W, w.heap.size ≤ D → (∀ j, j < k → lk j = none) → Below w.heap.size w W → W.heap[D]? = some (.deferred (some [])) → Q .normal { tmps := #[u 0, u 1, u 2, u 3, u 4, .pointer (some ⟨B5, o5, none⟩), .pointer (some ⟨B6, 0, none⟩), .pointer (some ⟨B7, 0, none⟩), u 8, u 9, u 10, u 11, u 12, u 13, u 14, u 15, u 16, u 17, u 18, u 19, u 20, u 21, u 22, u 23, u 24, u 25, u 26, u 27, u 28, .func (.func 75) #[] #[.pointer (some ⟨Bs, bo, none⟩)], u 30, u 31, u 32, u 33, u 34, u 35, u 36, u 37, u 38, u 39, u 40, u 41, u 42, u 43, u 44, u 45, u 46, u 47, u 48, u 49, u 50, u 51, u 52, u 53, u 54, u 55, u 56, u 57, u 58, u 59, u 60, u 61, u 62, u 63, u 64, u 65, u 66, u 67, u 68, u 69, u 70, u 71, u 72], defers := [{ target := .collected D, args := #[] }] } W)
    (hfound : ∀ D W j v, w.heap.size ≤ D → j < k → lk j = some v → (∀ i, j < i → i < k → lk i = none) → Below w.heap.size ((w.setCell ⟨B6, 0, none⟩ (.int .i64 v)).setCell ⟨B7, 0, none⟩ (.int .i64 0)) W → W.heap[D]? = some (.deferred (some [])) →
      Q .ret { tmps := #[u 0, u 1, u 2, u 3, u 4, .pointer (some ⟨B5, o5, none⟩), .pointer (some ⟨B6, 0, none⟩), .pointer (some ⟨B7, 0, none⟩), u 8, u 9, u 10, u 11, u 12, u 13, u 14, u 15, u 16, u 17, u 18, u 19, u 20, u 21, u 22, u 23, u 24, u 25, u 26, u 27, u 28, .func (.func 75) #[] #[.pointer (some ⟨Bs, bo, none⟩)], u 30, u 31, u 32, u 33, u 34, u 35, u 36, u 37, u 38, u 39, u 40, u 41, u 42, u 43, u 44, u 45, u 46, u 47, u 48, u 49, u 50, u 51, u 52, u 53, u 54, u 55, u 56, u 57, u 58, u 59, u 60, u 61, u 62, u 63, u 64, u 65, u 66, u 67, u 68, u 69, u 70, u 71, u 72], defers := [{ target := .collected D, args := #[] }] } W) :
    readRange.wp Try.prog Q { tmps := #[u 0, u 1, u 2, u 3, u 4, .pointer (some ⟨B5, o5, none⟩), .pointer (some ⟨B6, 0, none⟩), .pointer (some ⟨B7, 0, none⟩), u 8, u 9, u 10, u 11, u 12, u 13, u 14, u 15, u 16, u 17, u 18, u 19, u 20, u 21, u 22, u 23, u 24, u 25, u 26, u 27, u 28, .func (.func 75) #[] #[.pointer (some ⟨Bs, bo, none⟩)], u 30, u 31, u 32, u 33, u 34, u 35, u 36, u 37, u 38, u 39, u 40, u 41, u 42, u 43, u 44, u 45, u 46, u 47, u 48, u 49, u 50, u 51, u 52, u 53, u 54, u 55, u 56, u 57, u 58, u 59, u 60, u 61, u 62, u 63, u 64, u 65, u 66, u 67, u 68, u 69, u 70, u 71, u 72], defers := [] } w := by
  refine (wpIn_wide (n := 2)).1 ?_
  delta readRange
  dsimp only [Try.f17]
  refine wpIn_block ?_
  refine wpIn_rangeFunc_ownF rfl (by decide) (gf := 75) (lb := #[.pointer (some ⟨Bs, bo, none⟩)]) rfl trivial (enters_of Try.func75 (by kernel_rfl) rfl) (back_stops Fence.wide 1 trivial rfl (Nat.le_refl _) Bs bo w.heap.size b 0 k cap (fun j => .map (some (mb j))) hk w hBs hb (Nat.le_refl _) hs hc) (fun h k => belowK_t h k) (belowK_b (Nat.le_refl _)) (Below.refl _ _) (fun _ => rfl)
    (fun pre W => (∀ j, j ∈ pre → lk j = none) ∧ Below w.heap.size w W)
    (fun c pre W => (c = .ret ∧ ∃ pre' j v, pre = pre' ++ [j] ∧ (∀ i, i ∈ pre' → lk i = none) ∧ lk j = some v ∧ Below w.heap.size ((w.setCell ⟨B6, 0, none⟩ (.int .i64 v)).setCell ⟨B7, 0, none⟩ (.int .i64 0)) W))
    ?hI ?hIx ?h0 (fun x => { tmps := #[u 0, u 1, u 2, u 3, u 4, .pointer (some ⟨B5, o5, none⟩), .pointer (some ⟨B6, 0, none⟩), .pointer (some ⟨B7, 0, none⟩), u 8, u 9, .map (some (mb x)), u 11, u 12, u 13, u 14, u 15, u 16, u 17, u 18, u 19, u 20, u 21, u 22, u 23, u 24, u 25, u 26, u 27, u 28, .func (.func 75) #[] #[.pointer (some ⟨Bs, bo, none⟩)], .int .i64 (x : Int), .map (some (mb x)), u 32, u 33, u 34, u 35, u 36, u 37, u 38, u 39, u 40, u 41, u 42, u 43, u 44, u 45, u 46, u 47, u 48, u 49, u 50, u 51, u 52, u 53, u 54, u 55, u 56, u 57, u 58, u 59, u 60, u 61, u 62, u 63, u 64, u 65, u 66, u 67, u 68, u 69, u 70, u 71, u 72], defers := [] }) ?assign ?body ?done ?stop
  case hI => exact OwnFrom.and (fun s W W' row h _ _ => h) (ownFrom_below (Nat.le_refl _) (Nat.le_refl _))
  case hIx =>
    rintro c s W W' row ⟨hc, pre', j, v, e1, e2, e3, hB⟩ hg hr
    exact ⟨hc, pre', j, v, e1, e2, e3, ownFrom_below (β := Unit) (w₀ := (w.setCell ⟨B6, 0, none⟩ (.int .i64 v)).setCell ⟨B7, 0, none⟩ (.int .i64 0)) (by simp) (Nat.le_refl _) () W W' row hB hg hr⟩
  case h0 => exact ⟨fun j h => (by cases h), Below.refl _ _⟩
  case assign =>
    intro l x W K hK
    gi_wp2
    exact hK
  case body =>
    rintro l pre x W ⟨hp, hB⟩ hlt
    have g5 : W.cell? ⟨B5, o5, none⟩ = some (.int .i64 n) := below_cell hB h5
    have hlk := hl x W hB
    have hlt6 := (Array.getElem?_eq_some_iff.1 h6).1
    have hlt7 := (Array.getElem?_eq_some_iff.1 h7).1
    have e6 : W.heap[B6]? = some (.cells #[x6] T6 (0, 0)) := (hB.block B6 hlt6).trans h6
    have e7 : W.heap[B7]? = some (.cells #[x7] T7 (0, 0)) := (hB.block B7 hlt7).trans h7
    have g6 : W.cell? ⟨B6, 0, none⟩ = some x6 := by simp [World.cell?, e6]
    have g6f : W.frozen? ⟨B6, 0, none⟩ = false := by simp [World.frozen?, e6]
    have g7 : W.cell? ⟨B7, 0, none⟩ = some x7 := by simp [World.cell?, e7]
    have g7f : W.frozen? ⟨B7, 0, none⟩ = false := by simp [World.frozen?, e7]
    have h76 : B7 ≠ B6 := h67.symm
    cases hx : lk x with
    | none =>
      rw [hx] at hlk
      simp only [Option.getD_none, Option.isSome_none] at hlk
      gi_wp2
      exact ⟨KeepsOthers.refl _, Below.refl _ _, fun j hj => (List.mem_append.1 hj).elim (hp j) (fun h => by simp at h; rw [h]; exact hx), hB⟩
    | some v =>
      rw [hx] at hlk
      simp only [Option.getD_some, Option.isSome_some] at hlk
      gi_wp2
      exact ⟨(KeepsOthers.setCell _ _ _).trans (KeepsOthers.setCell _ _ _), rfl, pre, x, rfl, hp, v, hx, below_setCell (below_setCell hB _ _) _ _⟩
  case done =>
    intro D xs W hD hS hI hh
    obtain ⟨hp, hB⟩ := hI
    exact hnone D W hD (fun j hj => hp j (by rw [hS]; exact mem_downTo hj (by omega))) hB hh
  case stop =>
    rintro D c pre W hD ⟨k', hk', rfl⟩ ⟨rfl, pre', j, v, e1, e2, e3, hB⟩ hh
    gi_wp2
    have hm : ∃ m, k' = m + 1 ∧ pre' = downTo k m ∧ j = k - 1 - m := by
      cases k' with
      | zero => simp [downTo] at e1
      | succ m =>
        rw [downTo_succ] at e1
        obtain ⟨q1, q2⟩ := List.append_inj' e1 rfl
        exact ⟨m, rfl, q1.symm, by simpa using q2.symm⟩
    obtain ⟨m, rfl, rfl, rfl⟩ := hm
    exact hfound D W _ v hD (by omega) e3 (fun i hi hik => e2 i (mem_downTo hik (by omega))) hB hh

end Go.Proofs
