/- The reference: New. -/
import Derived.Test.YteclbnjpijakbaaR2
set_option linter.unusedSimpArgs false
set_option linter.unusedVariables false
set_option maxRecDepth 8000
namespace Go.Proofs
open Go Go.AL

/-- The two slices of a record that has just been laid are told as what may be appended to. -/
theorem conv_rec {st : St} {tid : Nat} {A B : List SV} {a0 a1 : SV} {z z' : Nat} (h : st[tid]? = some (.cells (A ++ (a0 :: a1 :: .slice .full z [] :: .slice .full z' [] :: B)))) :
    Conv st (st.set tid (.cells (A ++ (a0 :: a1 :: .slice (.own st.length 0) 1 [] :: .arr (st.length + 1) 0 0 :: B))) ++ [.tok 0, .arr 0 3 []]) := by
  have hlt := lt_of_get h
  have c1 := conv_ownC tid (A.length + 2) 1 z h (by simp) (by simp [List.getD_eq_getElem?_getD])
  have e1 : (A ++ (a0 :: a1 :: SV.slice .full z [] :: SV.slice .full z' [] :: B)).set (A.length + 2) (.slice (.own st.length 0) 1 []) = A ++ (a0 :: a1 :: SV.slice (.own st.length 0) 1 [] :: SV.slice .full z' [] :: B) := by
    rw [List.set_append_right _ _ (by omega)]; simp
  rw [e1] at c1
  have h2 : (st.set tid (.cells (A ++ (a0 :: a1 :: SV.slice (.own st.length 0) 1 [] :: SV.slice .full z' [] :: B))) ++ [Ob.tok 0])[tid]? = some (.cells (A ++ (a0 :: a1 :: SV.slice (.own st.length 0) 1 [] :: SV.slice .full z' [] :: B))) := by
    rw [List.getElem?_append_left (by simpa using hlt), List.getElem?_set_self hlt]
  have c2 := conv_arrC tid (A.length + 3) 3 z' h2 (by simp) (by simp [List.getD_eq_getElem?_getD])
  have e2 : (A ++ (a0 :: a1 :: SV.slice (.own st.length 0) 1 [] :: SV.slice .full z' [] :: B)).set (A.length + 3) (.arr (st.length + 1) 0 0) = A ++ (a0 :: a1 :: SV.slice (.own st.length 0) 1 [] :: SV.arr (st.length + 1) 0 0 :: B) := by
    rw [List.set_append_right _ _ (by omega)]; simp
  have e3 : (st.set tid (.cells (A ++ (a0 :: a1 :: SV.slice (.own st.length 0) 1 [] :: SV.slice .full z' [] :: B))) ++ [Ob.tok 0]).length = st.length + 1 := by simp
  rw [e3, e2, List.set_append_left _ _ (by simpa using hlt), List.set_set, List.append_assoc] at c2
  exact c1.trans c2

def zc : List SV := [.sc (.bool false), i64 0, .slice .full 0 [], .slice .full 0 [], i64 0, .sc (.bool false), i64 0, i64 0]
def recs (n k : Nat) : List RX := (List.range k).map fun t => ⟨n + 2 * t, 0, n + 2 * t + 1, 0, .none⟩
def toks (k : Nat) : St := (List.range k).flatMap fun _ => [.tok 0, .arr 0 3 []]

theorem toks_succ (k : Nat) : toks (k + 1) = toks k ++ [.tok 0, .arr 0 3 []] := by simp [toks, List.range_succ]
theorem toks_len (k : Nat) : (toks k).length = 2 * k := by
  induction k with
  | zero => rfl
  | succ k ih => rw [toks_succ, List.length_append, ih]; simp; omega
theorem recs_succ (n k : Nat) : recs n (k + 1) = recs n k ++ [⟨n + 2 * k, 0, n + 2 * k + 1, 0, .none⟩] := by simp [recs, List.range_succ]

theorem conv_all {st : St} {tid : Nat} {m : Nat} (h : st[tid]? = some (.cells ((List.replicate m zc).flatten))) : ∀ k, k ≤ m →
    Conv st (st.set tid (.cells ((recs st.length k).flatMap RX.cells ++ (List.replicate (m - k) zc).flatten)) ++ toks k) := by
  intro k
  have hlt := lt_of_get h
  induction k with
  | zero =>
    intro _
    have e : st.set tid (.cells ((recs st.length 0).flatMap RX.cells ++ (List.replicate (m - 0) zc).flatten)) ++ toks 0 = st := by
      simp only [recs, toks, List.range_zero, List.map_nil, List.flatMap_nil, List.nil_append, List.append_nil, Nat.sub_zero]
      exact set_same h
    rw [e]; exact Conv.refl _
  | succ k ih =>
    intro hk
    refine (ih (by omega)).trans ?_
    have hz : (List.replicate (m - k) zc).flatten = zc ++ (List.replicate (m - (k + 1)) zc).flatten := by
      rw [show m - k = (m - (k + 1)) + 1 by omega, List.replicate_succ, List.flatten_cons]
    have h1 : (st.set tid (.cells ((recs st.length k).flatMap RX.cells ++ (List.replicate (m - k) zc).flatten)) ++ toks k)[tid]? = some (.cells ((recs st.length k).flatMap RX.cells ++
        (.sc (.bool false) :: i64 0 :: .slice .full 0 [] :: .slice .full 0 [] :: (i64 0 :: .sc (.bool false) :: i64 0 :: i64 0 :: (List.replicate (m - (k + 1)) zc).flatten)))) := by
      rw [List.getElem?_append_left (by simpa using hlt), List.getElem?_set_self hlt, hz]; rfl
    have c := conv_rec h1
    have el : (st.set tid (.cells ((recs st.length k).flatMap RX.cells ++ (List.replicate (m - k) zc).flatten)) ++ toks k).length = st.length + 2 * k := by simp [toks_len]
    rw [el, List.set_append_left _ _ (by simpa using hlt), List.set_set, List.append_assoc, ← toks_succ] at c
    have e2 : (recs st.length (k + 1)).flatMap RX.cells ++ (List.replicate (m - (k + 1)) zc).flatten = (recs st.length k).flatMap RX.cells ++
        (.sc (.bool false) :: i64 0 :: .slice (.own (st.length + 2 * k) 0) 1 [] :: .arr (st.length + 2 * k + 1) 0 0 :: (i64 0 :: .sc (.bool false) :: i64 0 :: i64 0 :: (List.replicate (m - (k + 1)) zc).flatten)) := by
      rw [recs_succ, List.flatMap_append, List.append_assoc]; rfl
    rw [e2]; exact c

def RP.new : RP := ⟨0, [], List.replicate 8 .none⟩
def RG.new (n : Nat) : RG := ⟨n + 1, n + 2, 0, n, 0, [], recs (n + 3) 8⟩

theorem recs_get {n k t : Nat} {y : RX} (h : (recs n k)[t]? = some y) : t < k ∧ y = ⟨n + 2 * t, 0, n + 2 * t + 1, 0, .none⟩ := by
  unfold recs at h
  rw [List.getElem?_map] at h
  by_cases c : t < k
  · rw [List.getElem?_range c] at h
    exact ⟨c, by simpa using h.symm⟩
  · rw [List.getElem?_eq_none (by simpa using c)] at h; cases h

theorem toks_get {k t : Nat} (h : t < k) : (toks k)[2 * t]? = some (.tok 0) ∧ (toks k)[2 * t + 1]? = some (.arr 0 3 []) := by
  induction k with
  | zero => cases h
  | succ k ih =>
    rw [toks_succ]
    have hl := toks_len k
    by_cases e : t = k
    · subst e
      rw [List.getElem?_append_right (by omega), List.getElem?_append_right (by omega), hl]
      simp
    · rw [List.getElem?_append_left (by omega), List.getElem?_append_left (by omega)]
      exact ih (by omega)

theorem rnew_at {st s : St} (hs : s = st ++ [Ob.cells ((recs (st.length + 3) 8).flatMap RX.cells), Ob.cells (RG.new st.length).cells, Ob.arr 0 3 []] ++ toks 8) :
    RefAt s (RG.new st.length) ∧ (RG.new st.length).abs = RP.new ∧ (∀ j, (RG.new st.length).has j → st.length ≤ j) ∧ (∀ j, j < st.length → s[j]? = st[j]?) ∧ st.length ≤ s.length := by
  have g0 : ∀ i, s[st.length + i]? = ([Ob.cells ((recs (st.length + 3) 8).flatMap RX.cells), Ob.cells (RG.new st.length).cells, Ob.arr 0 3 []] ++ toks 8)[i]? := by
    intro i
    rw [hs, List.append_assoc, List.getElem?_append_right (by omega), show st.length + i - st.length = i by omega]
  have g3 : ∀ i, s[st.length + 3 + i]? = (toks 8)[i]? := by
    intro i
    rw [show st.length + 3 + i = st.length + (3 + i) by omega, g0, List.getElem?_append_right (by simp)]
    congr 1
    simp
  refine ⟨⟨g0 1, g0 2, g0 0, rfl, by simp [RG.new], fun t y hy => ?_, fun t y hy => ?_, fun t u y z hy hz hne => ?_, fun t y hy => ?_, by simp [RG.new]⟩, rfl, fun j hj => ?_, fun j hj => ?_, ?_⟩
  · obtain ⟨ht, rfl⟩ := recs_get hy
    show s[st.length + 3 + 2 * t]? = some (.tok 0)
    rw [g3]; exact (toks_get ht).1
  · obtain ⟨ht, rfl⟩ := recs_get hy
    show s[st.length + 3 + 2 * t + 1]? = some (.arr 0 3 [])
    rw [show st.length + 3 + 2 * t + 1 = st.length + 3 + (2 * t + 1) by omega, g3]; exact (toks_get ht).2
  · obtain ⟨ht, rfl⟩ := recs_get hy
    obtain ⟨hu, rfl⟩ := recs_get hz
    simp only [ne_eq]; omega
  · obtain ⟨ht, rfl⟩ := recs_get hy
    simp only [RG.new, ne_eq]; omega
  · rcases hj with e | e | e | ⟨t, y, hy, e⟩
    · simp only [RG.new] at e; omega
    · simp only [RG.new] at e; omega
    · simp only [RG.new] at e; omega
    · obtain ⟨ht, rfl⟩ := recs_get hy
      simp only at e; omega
  · rw [hs, List.append_assoc, List.getElem?_append_left hj]
  · rw [hs]; simp

theorem rnew_c {st : St} (K : SV → St → Prop) (h : ∀ s R, RefAt s R → R.abs = RP.new → (∀ j, R.has j → st.length ≤ j) → (∀ j, j < st.length → s[j]? = st[j]?) → st.length ≤ s.length → K (.ptr R.id 0) s) : ACalls Try.prog 43 [] K st := by
  refine acalls_conv ?_
  refine acalls_go (M := [1, 3]) Try.func43 rfl Try.results43 Try.ntmps43 ?_
  simp only [go_sem, reduceCtorEq, Nat.reduceAdd, Nat.reduceMul, Nat.reduceLeDiff, Nat.reduceLT, Int.reduceLE, Int.reduceLT, Int.reduceEq, Nat.reduceBEq, Nat.reduceEqDiff]
  refine ⟨by decide, ?_⟩
  have hz : zeroL (zerosOf Try.prog 53) (Int.toNat 8) = (List.replicate 8 zc).flatten := rfl
  rw [hz]
  have h0 : (st ++ [Ob.cells (List.replicate 8 zc).flatten, Ob.cells [SV.sc (Value.int IntKind.i64 0), SV.slice Mode.full 0 [], SV.slc (List.length st) 8 0 8 8]])[st.length + 1]? = some (.cells [SV.sc (Value.int IntKind.i64 0), SV.slice Mode.full 0 [], SV.slc (List.length st) 8 0 8 8]) := by
    rw [List.getElem?_append_right (by omega)]; simp
  have c1 := conv_arrC (st.length + 1) 1 3 0 h0 (by simp) rfl
  have e1 : (st ++ [Ob.cells (List.replicate 8 zc).flatten, Ob.cells [SV.sc (Value.int IntKind.i64 0), SV.slice Mode.full 0 [], SV.slc (List.length st) 8 0 8 8]]).length = st.length + 2 := by simp
  rw [e1, List.set_append_right _ _ (by omega)] at c1
  simp only [show st.length + 1 - st.length = 1 by omega, List.set_cons_succ, List.set_cons_zero, List.append_assoc, List.cons_append, List.nil_append] at c1
  have h1 : (st ++ [Ob.cells (List.replicate 8 zc).flatten, Ob.cells [SV.sc (Value.int IntKind.i64 0), .arr (st.length + 2) 0 0, SV.slc (List.length st) 8 0 8 8], Ob.arr 0 3 []])[st.length]? = some (.cells (List.replicate 8 zc).flatten) := by simp
  have c2 := conv_all h1 8 (Nat.le_refl _)
  have e2 : (st ++ [Ob.cells (List.replicate 8 zc).flatten, Ob.cells [SV.sc (Value.int IntKind.i64 0), .arr (st.length + 2) 0 0, SV.slc (List.length st) 8 0 8 8], Ob.arr 0 3 []]).length = st.length + 3 := by simp
  rw [e2, List.set_append_right _ _ (Nat.le_refl _)] at c2
  simp only [Nat.sub_self, List.set_cons_zero, List.replicate_zero, List.flatten_nil, List.append_nil] at c2
  refine ⟨_, c1.trans c2, ?_⟩
  obtain ⟨k1, k2, k3, k4, k5⟩ := rnew_at (st := st) rfl
  exact h _ _ k1 k2 k3 k4 k5

end Go.Proofs
