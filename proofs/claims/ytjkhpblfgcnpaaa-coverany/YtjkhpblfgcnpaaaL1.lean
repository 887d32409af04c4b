/- Plain laws: a row of anys ahead; the order of rows. -/
import Derived.Test.YtjkhpblfgcnpaaaW18
set_option linter.unusedSimpArgs false
set_option linter.unusedVariables false
set_option maxRecDepth 8000
namespace Go.Proofs
open Go Go.AL

def anys (W : Nat) : List Nd := List.replicate W anyN

theorem anys_succ (W : Nat) : anys (W + 1) = anyN :: anys W := rfl
theorem anys_app (a b : Nat) : anys a ++ anys b = anys (a + b) := by simp [anys]
theorem loose_any : looseB anyN = true := rfl
theorem below_anys (W : Nat) (h : Nd) : belowL (anys (W + 1)) h = anys (h.kids.length + W) := by
  unfold belowL
  rw [anys_succ, List.getD_cons_zero, loose_any, if_pos rfl]
  exact anys_app _ _
theorem belowB_anys (W : Nat) (h : Nd) : belowB (anys (W + 1)) h = true := by
  unfold belowB; rw [anys_succ, List.getD_cons_zero, loose_any]; rfl

theorem column_cons (r : List Nd) (rows : List (List Nd)) : columnL (r :: rows) = if looseB (r.getD 0 default) then columnL rows else r.getD 0 default :: columnL rows := by
  unfold columnL
  rw [List.filter_cons]
  cases looseB (r.getD 0 default) <;> rfl

theorem column_anys (W : Nat) (rows : List (List Nd)) : columnL (anys (W + 1) :: rows) = columnL rows := by
  rw [column_cons, anys_succ, List.getD_cons_zero, loose_any, if_pos rfl]
theorem others_anys (W : Nat) (rows : List (List Nd)) : othersL (anys (W + 1) :: rows) = anys W :: othersL rows := by
  rw [others_cons, anys_succ, List.getD_cons_zero, loose_any, if_pos rfl]; rfl
theorem under_anys (W : Nat) (rows : List (List Nd)) (h : Nd) : underL (anys (W + 1) :: rows) h = anys (h.kids.length + W) :: underL rows h := by
  rw [under_cons, belowB_anys, if_pos rfl, below_anys]

theorem column_nil : columnL [] = [] := rfl
theorem others_nil : othersL [] = [] := rfl

theorem good_ne {cons : List Cn} {W : Nat} {rows : List (List Nd)} (h : Good cons (W + 1) rows) (hne : rows ≠ []) : ¬ (rows = [] ∨ rows.getD 0 default = []) := by
  rintro (e | e)
  · exact hne e
  · cases rows with
    | nil => exact hne rfl
    | cons r rs => rw [List.getD_cons_zero] at e; exact h.ne r List.mem_cons_self e

theorem good_anys {cons : List Cn} {W : Nat} {rows : List (List Nd)} (h : Good cons W rows) (hl : rows.length < 100000) : Good cons W (anys W :: rows) := by
  refine ⟨by simp; omega, fun r hr => ?_, fun r hr => ?_⟩
  · cases hr with
    | head => simp [anys]
    | tail _ hr => exact h.wide r hr
  · cases hr with
    | head => exact okL_anys _ _
    | tail _ hr => exact h.ok r hr

theorem col_head {cons : List Cn} {W : Nat} {rows : List (List Nd)} (hg : Good cons (W + 1) rows) {p : Nd} (hp : p ∈ columnL rows) : okB cons p = true ∧ nlR (underL rows p) + 1 ≤ nlR rows := by
  obtain ⟨r, hr, rfl, hl⟩ := column_mem hp
  exact ⟨hg.head hr, (under_nl (head := r.getD 0 default) hg.ne).2 ⟨r, hr, hl⟩⟩

theorem any_congr {α : Type} {f g : α → Bool} : ∀ {l : List α}, (∀ x ∈ l, f x = g x) → l.any f = l.any g
  | [], _ => rfl
  | x :: r, h => by rw [List.any_cons, List.any_cons, h x List.mem_cons_self, any_congr (l := r) fun y hy => h y (List.mem_cons_of_mem _ hy)]

theorem getD_mem {l : List Nd} {i : Nat} (h : i < l.length) : l.getD i default ∈ l := by simp [List.getD_eq_getElem?_getD, h]

/-- A row of anys ahead changes not whether rows go together. -/
theorem tog_any (cons : List Cn) (hlow : Low cons) : ∀ (b : Nat) (W : Nat) (rows : List (List Nd)), Good cons W rows → 6 * nlR rows + W < b → togF cons b (anys W :: rows) = togF cons b rows := by
  intro b
  induction b with
  | zero => intro W rows _ h; exact absurd h (Nat.not_lt_zero _)
  | succ b ih =>
    intro W rows hg hm
    cases W with
    | zero =>
      have e : ∀ rs : List (List Nd), togF cons (b + 1) ([] :: rs) = true := fun rs => by rw [togF, if_pos (.inr rfl)]
      have h2 : togF cons (b + 1) rows = true := by
        cases rows with
        | nil => rw [togF, if_pos (.inl rfl)]
        | cons r rs =>
          have : r = [] := List.eq_nil_of_length_eq_zero (hg.wide r List.mem_cons_self)
          rw [this]; exact e rs
      rw [h2]; exact e _
    | succ W =>
      have hn : ¬ (anys (W + 1) :: rows = [] ∨ (anys (W + 1) :: rows).getD 0 default = []) := by
        rintro (h | h)
        · cases h
        · rw [List.getD_cons_zero, anys_succ] at h; cases h
      have hgo := good_others hg
      have hno := others_nl hg.ne
      have hoth : togF cons b (anys W :: othersL rows) = togF cons b (othersL rows) := ih W _ hgo (by omega)
      by_cases hne : rows = []
      · subst hne
        rw [togF, if_neg hn, column_anys, if_pos column_nil, others_anys, hoth, togF, if_pos (.inl rfl)]
        cases b with
        | zero => omega
        | succ b => rw [others_nil, togF, if_pos (.inl rfl)]
      · rw [togF, togF, if_neg hn, if_neg (good_ne hg hne), column_anys, others_anys, hoth]
        by_cases hc : columnL rows = []
        · rw [if_pos hc, if_pos hc]
        · rw [if_neg hc, if_neg hc]
          have hu : ∀ p ∈ columnL rows, togF cons b (underL (anys (W + 1) :: rows) p) = togF cons b (underL rows p) := by
            intro p hp
            obtain ⟨hok, hnl⟩ := col_head hg hp
            have := ok_len hlow hok
            rw [under_anys]
            exact ih _ _ (good_under hg hok) (by omega)
          have hx : ((List.range (columnL rows).length).any fun i => !(((columnL rows).take i).any fun o => sameB o ((columnL rows).getD i default)) && !togF cons b (underL (anys (W + 1) :: rows) ((columnL rows).getD i default))) =
              ((List.range (columnL rows).length).any fun i => !(((columnL rows).take i).any fun o => sameB o ((columnL rows).getD i default)) && !togF cons b (underL rows ((columnL rows).getD i default))) :=
            any_congr fun i hi => by rw [hu _ (getD_mem (List.mem_range.1 hi))]
          rw [hx]

/-- Behind a row of anys nothing is meant any more. -/
theorem mea_any (cons : List Cn) : ∀ (b : Nat) (W : Nat) (rows : List (List Nd)) (q : List Nd), anys W ∈ rows → q.length = W → meaF cons b rows q = false := by
  intro b
  induction b with
  | zero => intros; rfl
  | succ b ih =>
    intro W rows q hr hq
    have hne : rows ≠ [] := by rintro rfl; cases hr
    rw [meaF]
    cases W with
    | zero =>
      have : q = [] := List.eq_nil_of_length_eq_zero hq
      rw [if_pos (.inr this), decide_eq_false hne]
    | succ W =>
      have hqne : q ≠ [] := by rintro rfl; cases hq
      have hu : ∀ h, anys (h.kids.length + W) ∈ underL rows h := by
        intro h
        unfold underL
        exact List.mem_map.2 ⟨anys (W + 1), List.mem_filter.2 ⟨hr, belowB_anys _ _⟩, below_anys W h⟩
      have ho : anys W ∈ othersL rows := by
        unfold othersL
        exact List.mem_map.2 ⟨anys (W + 1), List.mem_filter.2 ⟨hr, rfl⟩, rfl⟩
      rw [if_neg (by rintro (h | h); exact hne h; exact hqne h)]
      cases hL : looseB (q.getD 0 default) with
      | false =>
        rw [if_pos rfl]
        refine ih _ _ _ (hu _) ?_
        unfold belowL
        rw [hL, if_neg (by decide), if_pos (by unfold sameB; simp)]
        simp [hq]
      | true =>
        rw [if_neg (by decide)]
        split
        · rw [List.any_eq_false]
          intro c _
          rw [ih _ _ _ (hu (headOf c)) (by unfold belowL; rw [hL, if_pos rfl]; simp [hq])]
          decide
        · exact ih _ _ _ ho (by simp [hq])

end Go.Proofs
