/- The abstract layer, part 21: what stands behind a call, a loop or a region that draws, held: simp does not look into it. -/
import Derived.Test.YtammbegfobhflaaA3
import Derived.Carry
import Derived.ChangeBears
set_option linter.all false
set_option linter.unusedVariables false
namespace Go.AL
variable {P : Program}
class Held (α : Type) where
  val : α
def ACallsH (P : Program) (f : FuncId) (args : List SV) (st : St) [h : Held (SV → St → Prop)] : Prop := ACalls P f args h.val st
def AWpH (P : Program) (c : Code) (env : List SV) (st : St) [h : Held (Exit → List SV → St → Prop)] : Prop := AWp P c h.val env st
theorem call_funcH {K : SV → St → Prop} {st : St} {a xs ys : List SV} {q : FuncId} : callSpec P a st (.func (.func q) xs ys) K = (aBody P q = true ∧ @ACallsH P q (xs ++ a ++ ys) st ⟨K⟩) := rfl
theorem c_loopH {M : List Nat} {Q : Exit → List SV → St → Prop} {env : List SV} {st : St} (c : Code) : cSpec P M (.loop c) Q env st = @AWpH P (.loop c) env st ⟨Q⟩ := rfl
theorem c_drawH {M : List Nat} {Q : Exit → List SV → St → Prop} {env : List SV} {st : St} (id : Nat) (ops : Array Oper) : cSpec P M (.region id ops true) Q env st = @AWpH P (.region id ops true) env st ⟨Q⟩ := rfl
theorem gAll_F {env : List SV} (l : List Operand) : gAll False env l = True := eq_true (gAll_of (fun h => h) l)
theorem gIf_F {x : SV} : gIf False x = True := by cases x <;> first | rfl | exact eq_true fun h => h.elim
theorem acalls_args {f : FuncId} {args args' : List SV} {K : SV → St → Prop} {st : St} (hl : SVles args args') (h : ACalls P f args' K st) : ACalls P f args K st :=
  fun σ w vs hI hR => h σ w vs hI ⟨hR.1.trans hl.len, fun i hi => hl.at i _ _ _ _ (hR.2 i (by rw [hl.len]; exact hi))⟩
end Go.AL
set_option linter.unusedVariables false
namespace Go.AL
variable {P : Program}
end Go.AL
set_option linter.unusedVariables false
namespace Go.AL
open Go Go.RowKit
variable {P : Program}
def topS (w : World) : Sig := { lock := fun b => if b < w.heap.size then .all else .upto 0, μ := fun _ => none }
def isAggD : Option TypeDesc → Bool
  | some (.struct _) => true
  | some (.array _ _) => true
  | _ => false
def elemSV (P : Program) (e : TypeId) (cs : List SV) : SV := if isAggD (P.underlying e) then .agg cs else cs.getD 0 .any
def rd (P : Program) (w : World) : Nat → TypeId → List Value → List SV
  | 0, _, cs => cs.map fun _ => .any
  | n + 1, t, cs => match P.underlying t with
    | some (.slice e) => match cs with
      | [.slice (some a) len cap] => [.slice .imm (P.cellsOf e) ((List.range len).map fun i => elemSV P e (rd P w n e (((w.cells? 0 (a.add (i * P.cellsOf e)) (P.cellsOf e))).getD [])))]
      | _ => [.slice .imm (P.cellsOf e) []]
    | some (.struct fs) => fs.toList.flatMap fun f => rd P w n f.type ((cs.drop f.offset).take (P.cellsOf f.type))
    | some .bool => cs.map .sc
    | some (.int _) => cs.map .sc
    | some .string => cs.map .sc
    | _ => cs.map fun _ => .any
def RdL (w : World) (xs : List SV) (cs : List Value) : Prop := xs.length = cs.length ∧ ∀ j, j < xs.length → Rep [] (topS w) w (xs.getD j .any) (cs.getD j default)
theorem rdL_map {w : World} (f : Value → SV) (hf : ∀ v, Rep [] (topS w) w (f v) v) (cs : List Value) : RdL w (cs.map f) cs := by
  refine ⟨by simp, fun j hj => ?_⟩
  simp only [List.length_map] at hj
  simp only [List.getD_eq_getElem?_getD, List.getElem?_map, List.getElem?_eq_getElem hj, Option.map_some, Option.getD_some]
  exact hf _
theorem rdL_append {w : World} {a b : List SV} {c d : List Value} (h : RdL w a c) (k : RdL w b d) : RdL w (a ++ b) (c ++ d) := by
  refine ⟨by simp [h.1, k.1], fun j hj => ?_⟩
  by_cases e : j < a.length
  · have := h.2 j e
    simp only [List.getD_eq_getElem?_getD] at this ⊢
    rw [List.getElem?_append_left e, List.getElem?_append_left (by rw [← h.1]; exact e)]
    exact this
  · have := k.2 (j - a.length) (by simp at hj; omega)
    simp only [List.getD_eq_getElem?_getD] at this ⊢
    rw [List.getElem?_append_right (by omega), List.getElem?_append_right (by rw [← h.1]; omega), ← h.1]
    exact this
theorem cells_at {w : World} {a : Addr} {n : Nat} {cs : List Value} (h : w.cells? 0 a n = some cs) : cs.length = n ∧ ∀ i, i < n → w.cell? (a.add i) = cs[i]? := by
  unfold World.cells? at h
  rw [if_pos (Nat.zero_le _)] at h
  refine ⟨by simpa using mapM_some_length h, fun i hi => mapM_some_get h i i (by simp [hi])⟩
theorem cell_spot {w : World} {a : Addr} {v : Value} (h : w.cell? a = some v) : a.spot = none ∧ a.block < w.heap.size := by
  unfold World.cell? at h
  split at h
  · rename_i hb
    refine ⟨?_, ?_⟩
    · cases hs : a.spot with
      | none => rfl
      | some s => simp [hs] at h
    · rcases Nat.lt_or_ge a.block w.heap.size with g | g
      · exact g
      · rw [Array.getElem?_eq_none g] at hb; cases hb
  · cases h
theorem add_add (a : Addr) (i j : Nat) (h : a.spot = none) : (a.add i).add j = ⟨a.block, a.off + i + j, none⟩ := by
  obtain ⟨b, o, s⟩ := a
  simp only at h
  subst h
  unfold Addr.add
  by_cases hi : i = 0 <;> by_cases hj : j = 0 <;> simp [hi, hj]
theorem add_spot {a : Addr} {i : Nat} : (a.add i).spot = none → i = 0 → a.spot = none := by
  intro h e
  subst e
  simpa [Addr.add] using h
theorem topS_has (w : World) {b : Nat} (o : Nat) (h : b < w.heap.size) : ((topS w).lock b).has o := by
  simp only [topS, if_pos h]
  trivial
section
variable {H : Type} {enc : TypeId × Value → H} {w : World} {T : TypeId → Prop}
theorem rd_rep (K : Kids P T) (hz : ∀ t e, T t → P.underlying t = some (.slice e) → 0 < P.cellsOf e) (hagg : ∀ e, T e → isAggD (P.underlying e) = false → P.cellsOf e = 1) :
    ∀ (n : Nat) (t : TypeId) (cs : List Value) (x : DataW H × List MemPlace), T t → DataW.trod enc P w 0 (fun _ => true) true n t cs = some x → RdL w (rd P w n t cs) cs := by
  intro n
  induction n with
  | zero => intro t cs x _ h; simp [DataW.trod] at h
  | succ n ih =>
    intro t cs x hT h
    unfold rd
    split
    · rename_i e ht
      rcases DataW.trod_slice ht h with ⟨rfl, _⟩ | ⟨a, len, cap, elems, rest, m, hm, rfl, _, _, hl, hc, hel, hat, _, _⟩
      · refine ⟨rfl, fun j hj => ?_⟩
        obtain rfl : j = 0 := by simp at hj; omega
        exact .nil _ _ trivial
      · obtain rfl : n = m := by omega
        have hTe := K.slice hT ht
        have hpos := hz t e hT ht
        refine ⟨rfl, fun j hj => ?_⟩
        obtain rfl : j = 0 := by simp at hj; omega
        have key : ∀ i, i < len → ∃ cs, w.cells? 0 (a.add (i * P.cellsOf e)) (P.cellsOf e) = some cs ∧ RdL w (rd P w n e cs) cs := by
          intro i hi
          have h1 := hat i hi
          have h2 : ∃ y, elems[i]? = some y := ⟨elems[i]'(by omega), List.getElem?_eq_getElem _⟩
          obtain ⟨y, hy⟩ := h2
          rw [hy] at h1
          cases hcs : w.cells? 0 (a.add (i * P.cellsOf e)) (P.cellsOf e) with
          | none => rw [hcs] at h1; cases h1
          | some cs =>
            rw [hcs] at h1
            exact ⟨cs, rfl, ih e cs y hTe h1⟩
        have hspot : 0 < len → a.spot = none := by
          intro h0
          obtain ⟨cs, h1, _⟩ := key 0 h0
          obtain ⟨h2, h3⟩ := cells_at h1
          have h4 := h3 0 hpos
          rw [List.getElem?_eq_getElem (by omega)] at h4
          have h5 := (cell_spot h4).1
          have h6 := add_spot h5 rfl
          exact add_spot h6 (by simp)
        have hlen : ((List.range len).map fun i => elemSV P e (rd P w n e (((w.cells? 0 (a.add (i * P.cellsOf e)) (P.cellsOf e))).getD []))).length = len := by simp
        have hget : ∀ i, i < len → ((List.range len).map fun i => elemSV P e (rd P w n e (((w.cells? 0 (a.add (i * P.cellsOf e)) (P.cellsOf e))).getD []))).getD i .any =
            elemSV P e (rd P w n e (((w.cells? 0 (a.add (i * P.cellsOf e)) (P.cellsOf e))).getD [])) := by
          intro i hi
          simp [List.getD_eq_getElem?_getD, hi]
        have helem : ∀ i cs, i < len → w.cells? 0 (a.add (i * P.cellsOf e)) (P.cellsOf e) = some cs → RdL w (rd P w n e cs) cs → (elemSV P e (rd P w n e cs)).cells.length = P.cellsOf e ∧
            ∀ j, j < P.cellsOf e → Rep [] (topS w) w ((elemSV P e (rd P w n e cs)).cells.getD j .any) (cs.getD j default) := by
          intro i cs hi hcs hr
          have hlc := (cells_at hcs).1
          unfold elemSV
          cases hag : isAggD (P.underlying e) with
          | true => exact ⟨by simp only [SV.cells, if_true]; rw [hr.1, hlc], fun j hj => by simp only [SV.cells, if_true]; exact hr.2 j (by rw [hr.1, hlc]; exact hj)⟩
          | false =>
            have h1 := hagg e hTe hag
            have h2 : (rd P w n e cs).length = 1 := by rw [hr.1, hlc, h1]
            have h3 := hr.2 0 (by omega)
            obtain ⟨y, hy⟩ : ∃ y, rd P w n e cs = [y] := by
              match hh : rd P w n e cs, h2 with
              | [y], _ => exact ⟨y, rfl⟩
            rw [hy] at h3 ⊢
            simp only [Bool.false_eq_true, if_false, List.getD_cons_zero] at h3 ⊢
            have hna : y.cells = [y] := by
              cases y <;> first | rfl | skip
              rename_i l
              exfalso
              have : ∀ (m : Nat) (t : TypeId) (cs : List Value), ¬ (SV.agg l ∈ rd P w m t cs) := by
                intro m
                induction m with
                | zero => intro t cs hm; simp [rd] at hm
                | succ m ihm =>
                  intro t cs hm
                  unfold rd at hm
                  split at hm
                  · split at hm <;> simp at hm
                  · simp only [List.mem_flatMap] at hm
                    obtain ⟨f, _, hf⟩ := hm
                    exact ihm _ _ hf
                  all_goals simp at hm
              exact this n e cs (by rw [hy]; simp)
            rw [hna, h1]
            refine ⟨rfl, fun j hj => ?_⟩
            obtain rfl : j = 0 := by omega
            exact h3
        have hrep : Rep [] (topS w) w (.slice .imm (P.cellsOf e) ((List.range len).map fun i => elemSV P e (rd P w n e (((w.cells? 0 (a.add (i * P.cellsOf e)) (P.cellsOf e))).getD []))))
            (.slice (some a) ((List.range len).map fun i => elemSV P e (rd P w n e (((w.cells? 0 (a.add (i * P.cellsOf e)) (P.cellsOf e))).getD []))).length cap) := by
          refine Rep.slice .imm (P.cellsOf e) _ a cap (fun i j => (((w.cells? 0 (a.add (i * P.cellsOf e)) (P.cellsOf e))).getD []).getD j default) (by rw [hlen]; exact hl) (fun hne => ?_) (fun i hi => ?_) (fun i j hi hj => ?_) (fun i j hi hj => ?_) trivial
          · refine hspot ?_
            rcases Nat.eq_zero_or_pos len with h0 | h0
            · subst h0; simp at hne
            · exact h0
          · rw [hlen] at hi
            obtain ⟨cs, h1, h2⟩ := key i hi
            rw [hget i hi, h1]
            exact (helem i cs hi h1 h2).1
          · rw [hlen] at hi
            obtain ⟨cs, h1, h2⟩ := key i hi
            obtain ⟨h3, h4⟩ := cells_at h1
            have h5 := h4 j hj
            rw [List.getElem?_eq_getElem (by omega)] at h5
            rw [h1]
            simp only [Option.getD_some]
            rw [add_add a _ _ (hspot (by omega))] at h5
            refine ⟨?_, ?_⟩
            · rw [h5, List.getD_eq_getElem?_getD, List.getElem?_eq_getElem (by omega)]; rfl
            · exact topS_has w _ (cell_spot h5).2
          · rw [hlen] at hi
            obtain ⟨cs, h1, h2⟩ := key i hi
            rw [hget i hi, h1]
            exact (helem i cs hi h1 h2).2 j hj
        rw [hlen] at hrep
        exact hrep
    · rename_i fs ht
      obtain ⟨xs, m, hm, rfl, hcl, hxl, hf⟩ := DataW.trod_struct ht h
      obtain rfl : n = m := by omega
      obtain ⟨k1, k2, k3⟩ := K.struct hT ht
      have key : ∀ (l : List Field) (k : Nat) , fs.toList.drop k = l → RdL w (l.flatMap fun f => rd P w n f.type ((cs.drop f.offset).take (P.cellsOf f.type))) (cs.drop (((fs.toList.take k).map fun f => P.cellsOf f.type).sum)) := by
        intro l
        induction l with
        | nil =>
          intro k hk
          have : cs.drop (((fs.toList.take k).map fun f => P.cellsOf f.type).sum) = [] := by
            have hkl : fs.toList.length ≤ k := by simpa using hk
            rw [List.take_of_length_le hkl, ← k2, List.drop_eq_nil_of_le (by omega)]
          rw [this]
          exact ⟨rfl, fun j hj => by simp at hj⟩
        | cons f r ihl =>
          intro k hk
          have hfk : fs.toList[k]? = some f := by
            have : (fs.toList.drop k)[0]? = some f := by rw [hk]; rfl
            simpa using this
          have hoff := k3 k f hfk
          have hr := ihl (k + 1) (by rw [← List.drop_drop, hk]; rfl)
          have htk : ((fs.toList.take (k + 1)).map fun f => P.cellsOf f.type).sum = f.offset + P.cellsOf f.type := by
            rw [List.take_add_one, hfk]; simp [hoff]
          rw [htk] at hr
          have hfx := hf k f (by simpa using hfk)
          have hkx : k < xs.length := by
            have := (List.getElem?_eq_some_iff.1 hfk).1
            rw [hxl]; simpa using this
          rw [List.getElem?_eq_getElem hkx] at hfx
          have h1 := ih f.type _ _ (k1 f (List.mem_of_getElem? hfk)) hfx
          rw [← hoff, List.flatMap_cons]
          have hsplit : cs.drop f.offset = (cs.drop f.offset).take (P.cellsOf f.type) ++ cs.drop (f.offset + P.cellsOf f.type) := by
            rw [← List.drop_drop, List.take_append_drop]
          have h2 := rdL_append h1 hr
          rw [← hsplit] at h2
          exact h2
      have := key fs.toList 0 rfl
      simpa using this
    · exact rdL_map _ (fun v => .sc v) _
    · exact rdL_map _ (fun v => .sc v) _
    · exact rdL_map _ (fun v => .sc v) _
    · exact rdL_map _ (fun v => .any v) _
theorem rd_slice {n : Nat} {t e : TypeId} {cs : List Value} {x : DataW H × List MemPlace} (ht : P.underlying t = some (.slice e)) (h : DataW.trod enc P w 0 (fun _ => true) true n t cs = some x) :
    ∃ (m : Nat) (css : List (List Value)), n = m + 1 ∧ rd P w n t cs = [.slice .imm (P.cellsOf e) (css.map fun c => elemSV P e (rd P w m e c))] ∧ css.length ≤ maxLen ∧ ∀ c ∈ css, ∃ y, DataW.trod enc P w 0 (fun _ => true) true m e c = some y := by
  rcases DataW.trod_slice ht h with ⟨rfl, _⟩ | ⟨a, len, cap, elems, rest, m, rfl, rfl, _, _, hl, hc, hel, hat, _, _⟩
  · cases n with
    | zero => simp [DataW.trod] at h
    | succ n => exact ⟨n, [], rfl, by unfold rd; rw [ht]; rfl, Nat.zero_le _, fun c hc => by cases hc⟩
  · refine ⟨m, (List.range len).map fun i => (w.cells? 0 (a.add (i * P.cellsOf e)) (P.cellsOf e)).getD [], rfl, ?_, by simp; omega, fun c hc => ?_⟩
    · conv => lhs; rw [rd, ht]
      simp only [List.map_map]; rfl
    · obtain ⟨i, hi, rfl⟩ := List.mem_map.1 hc
      have hi := List.mem_range.1 hi
      have h1 := hat i hi
      rw [List.getElem?_eq_getElem (by omega)] at h1
      cases hcs : w.cells? 0 (a.add (i * P.cellsOf e)) (P.cellsOf e) with
      | none => rw [hcs] at h1; cases h1
      | some cs => rw [hcs] at h1; exact ⟨_, h1⟩
theorem rd_struct {n : Nat} {t : TypeId} {fs : Array Field} {cs : List Value} {x : DataW H × List MemPlace} (ht : P.underlying t = some (.struct fs)) (h : DataW.trod enc P w 0 (fun _ => true) true n t cs = some x) :
    ∃ (m : Nat), n = m + 1 ∧ rd P w n t cs = (fs.toList.flatMap fun f => rd P w m f.type ((cs.drop f.offset).take (P.cellsOf f.type))) ∧
      ∀ (i : Nat) (f : Field), fs[i]? = some f → ∃ y, DataW.trod enc P w 0 (fun _ => true) true m f.type ((cs.drop f.offset).take (P.cellsOf f.type)) = some y := by
  obtain ⟨xs, m, rfl, rfl, hcl, hxl, hf⟩ := DataW.trod_struct ht h
  refine ⟨m, rfl, by conv => lhs; rw [rd, ht], fun i f hif => ?_⟩
  have h1 := hf i f hif
  have : i < xs.length := by rw [hxl]; exact (Array.getElem?_eq_some_iff.1 hif).1
  rw [List.getElem?_eq_getElem this] at h1
  exact ⟨_, h1⟩
theorem rd_int {n : Nat} {t : TypeId} {k : IntKind} {cs : List Value} {x : DataW H × List MemPlace} (ht : P.underlying t = some (.int k)) (h : DataW.trod enc P w 0 (fun _ => true) true n t cs = some x) :
    ∃ i, rd P w n t cs = [.sc (.int k i)] ∧ (Lit.int k i).wf = true := by
  obtain ⟨i, rfl, _, hw⟩ := DataW.trod_int ht h
  cases n with
  | zero => simp [DataW.trod] at h
  | succ n => exact ⟨i, by unfold rd; rw [ht]; rfl, hw⟩
theorem rd_string {n : Nat} {t : TypeId} {cs : List Value} {x : DataW H × List MemPlace} (ht : P.underlying t = some .string) (h : DataW.trod enc P w 0 (fun _ => true) true n t cs = some x) :
    ∃ s : ByteArray, rd P w n t cs = [.sc (.string s)] ∧ s.size ≤ maxLen := by
  obtain ⟨s, rfl, _, hs⟩ := DataW.trod_string ht h
  cases n with
  | zero => simp [DataW.trod] at h
  | succ n => exact ⟨s, by unfold rd; rw [ht]; rfl, hs⟩
theorem elems_map {α : Type} (enc' : α → SV) (f : List Value → SV) : ∀ (css : List (List Value)), (∀ c ∈ css, ∃ a, f c = enc' a) → ∃ l : List α, css.map f = l.map enc' ∧ l.length = css.length
  | [], _ => ⟨[], rfl, rfl⟩
  | c :: r, h => by
    obtain ⟨a, ha⟩ := h c List.mem_cons_self
    obtain ⟨l, hl, hn⟩ := elems_map enc' f r fun x hx => h x (List.mem_cons_of_mem _ hx)
    exact ⟨a :: l, by rw [List.map_cons, List.map_cons, ha, hl], by simp [hn]⟩
end
theorem cells_of_ok {w : World} {r : Reach} {base : Nat} {t e : TypeId} {v : Value} (ht : P.underlying t = some (.slice e)) (h : Value.okWide P w r base t v) : v.cells.toList = [v] := by
  unfold Value.okWide Cell.okWide Cell.ok at h
  rw [ht] at h
  cases v <;> first | rfl | exact h.elim
end Go.AL
