/- The plain law of Tl2Parts. -/
import Derived.Test.YteclbnjpijakbaaH2
import Derived.Test.YteclbnjpijakbaaP1
set_option linter.unusedSimpArgs false
set_option linter.unusedVariables false
namespace Go.Proofs
open Go Go.AL

def vars4 : List TV := [⟨10, 0, -1⟩, ⟨11, 0, -1⟩, ⟨12, 0, -1⟩, ⟨13, 0, -1⟩]
def partsE (rs : List Int) (maps : List FM) : EP := ⟨0, vars4, [some ⟨0, 0, rs, maps, false, false, []⟩, none, none, none, none, none, none, none]⟩

theorem parts_begin : (beginF (makesF 4) 0).2 = partsE [] [fun _ => none] := rfl

theorem parts_write (rs : List Int) (maps : List FM) {n : Int} (hn : 0 ≤ n ∧ n < 4) (v : Int) : writeF (partsE rs maps) 0 n v = (0, partsE rs (maps.set (maps.length - 1) (fmPut (maps.getD (maps.length - 1) fun _ => none) n v))) := by
  have his : (partsE rs maps).is n = true := by
    unfold EP.is
    have : ((partsE rs maps).vars.length : Int) = 4 := rfl
    rw [this]; simp [hn.1, hn.2]
  unfold writeF
  have ho : (partsE rs maps).opn 0 = some ⟨0, 0, rs, maps, false, false, []⟩ := rfl
  rw [ho]
  simp only [his, if_true]
  rfl
theorem parts_part (rs : List Int) (maps : List FM) : partF (partsE rs maps) 0 = (0, partsE rs (maps ++ [fun _ => none])) := rfl
theorem parts_join (rs : List Int) (b m : FM) : shutF (partsE rs [b, m]) 0 true = (0, partsE rs [fmOver m b]) := rfl
theorem parts_undo (rs : List Int) (b m : FM) : shutF (partsE rs [b, m]) 0 false = (0, partsE rs [b]) := rfl

theorem parts_read (rs : List Int) (m : FM) {n : Int} (hn : 0 ≤ n ∧ n < 4) : ∃ rs', readF (partsE rs [m]) 0 n = (((m n).getD (10 + n), 0), partsE rs' [m]) := by
  have his : (partsE rs [m]).is n = true := by
    unfold EP.is
    have : ((partsE rs [m]).vars.length : Int) = 4 := rfl
    rw [this]; simp [hn.1, hn.2]
  unfold readF
  have ho : (partsE rs [m]).opn 0 = some ⟨0, 0, rs, [m], false, false, []⟩ := rfl
  rw [ho]
  simp only [his, if_true]
  have ht : topGet [m] n = m n := by simp [topGet]
  simp only [ht]
  cases hm : m n with
  | some v => exact ⟨rs, rfl⟩
  | none =>
    have hv : (partsE rs [m]).vars.getD n.toNat default = ⟨10 + n, 0, -1⟩ := by
      obtain ⟨h0, h4⟩ := hn
      have : n = 0 ∨ n = 1 ∨ n = 2 ∨ n = 3 := by omega
      rcases this with rfl | rfl | rfl | rfl <;> rfl
    simp only [hv]
    have hl : lookF 0 0 ⟨10 + n, 0, -1⟩ = 0 := rfl
    rw [if_neg (by rw [hl]; decide)]
    by_cases c : n ∈ rs
    · exact ⟨rs, by rw [if_pos c]; rfl⟩
    · exact ⟨rs ++ [n], by rw [if_neg c]; rfl⟩

def seen (l : FM) (want : List Int) : Prop := ∀ n : Int, 0 ≤ n ∧ n < 4 → (l n).getD (10 + n) = want.getD n.toNat 0

/-- What stands ahead of round k. -/
def PInv (frm : Int) (keep : Bool) (k : Int) (maps : List FM) (want : List Int) : Prop :=
  want.length = 4 ∧ if k ≤ frm then ∃ m, maps = [m] ∧ seen m want else ∃ b m, maps = [b, m] ∧ if keep = true then seen (fmOver m b) want else seen b want

theorem seen_put {m : FM} {want : List Int} (h : seen m want) (hl : want.length = 4) {n : Int} (hn : 0 ≤ n ∧ n < 4) (v : Int) : seen (fmPut m n v) (want.set n.toNat v) := by
  intro k hk
  unfold fmPut
  by_cases e : k = n
  · subst e
    rw [if_pos rfl]
    have : k.toNat < want.length := by omega
    simp [List.getD_eq_getElem?_getD, this]
  · rw [if_neg e, h k hk]
    have : n.toNat ≠ k.toNat := by omega
    simp [List.getD_eq_getElem?_getD, List.getElem?_set_ne this]

theorem over_put (m b : FM) (n v : Int) : fmOver (fmPut m n v) b = fmPut (fmOver m b) n v := by
  funext k
  unfold fmOver fmPut
  split <;> simp

/-- A round: whether a part begins, the write. -/
theorem pinv_step {frm : Int} {keep : Bool} {k : Int} {maps : List FM} {want : List Int} (h : PInv frm keep k maps want) {n : Int} (hn : 0 ≤ n ∧ n < 4) (v : Int) (maps1 : List FM) (h1 : maps1 = if k = frm then maps ++ [fun _ => none] else maps) :
    PInv frm keep (k + 1) (maps1.set (maps1.length - 1) (fmPut (maps1.getD (maps1.length - 1) fun _ => none) n v)) (if k < frm ∨ keep = true then want.set n.toNat v else want) := by
  obtain ⟨hl, h⟩ := h
  refine ⟨by split <;> simp [hl], ?_⟩
  by_cases c : k ≤ frm
  · rw [if_pos c] at h
    obtain ⟨m, rfl, hs⟩ := h
    by_cases e : k = frm
    · rw [if_neg (by omega)]
      rw [if_pos e] at h1
      subst h1
      refine ⟨m, fmPut (fun _ => none) n v, rfl, ?_⟩
      cases keep with
      | true =>
        rw [if_pos rfl, if_pos (.inr rfl), over_put]
        have : fmOver (fun _ => none) m = m := by funext k; simp [fmOver]
        rw [this]
        exact seen_put hs hl hn v
      | false =>
        rw [if_neg (by decide), if_neg (by rintro (q | q); omega; cases q)]
        exact hs
    · rw [if_pos (by omega), if_pos (.inl (by omega))]
      rw [if_neg e] at h1
      subst h1
      exact ⟨fmPut m n v, rfl, seen_put hs hl hn v⟩
  · rw [if_neg c] at h
    obtain ⟨b, m, rfl, hs⟩ := h
    rw [if_neg (by omega)] at h1 ⊢
    subst h1
    refine ⟨b, fmPut m n v, rfl, ?_⟩
    cases keep with
    | true =>
      rw [if_pos rfl] at hs
      rw [if_pos rfl, if_pos (.inr rfl), over_put]
      exact seen_put hs hl hn v
    | false =>
      rw [if_neg (by decide)] at hs
      rw [if_neg (by decide), if_neg (by rintro (q | q); omega; cases q)]
      exact hs

theorem pinv_0 (frm : Int) (h : 0 ≤ frm) (keep : Bool) : PInv frm keep 0 [fun _ => none] [10, 11, 12, 13] := by
  refine ⟨rfl, ?_⟩
  rw [if_pos h]
  refine ⟨_, rfl, fun n hn => ?_⟩
  have : n = 0 ∨ n = 1 ∨ n = 2 ∨ n = 3 := by omega
  rcases this with rfl | rfl | rfl | rfl <;> rfl

end Go.Proofs
