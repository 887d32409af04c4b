/- The abstract layer, part 4: building values, storing, appending, calling. -/
import Derived.Test.YtjkhpblfgcnpaaaAl3
set_option linter.unusedVariables false
namespace Go.AL
variable {P : Program}

def splice (l : List SV) (off : Nat) (xs : List SV) : List SV := l.take off ++ xs ++ l.drop (off + xs.length)

theorem fold_list (off : Nat) : ∀ (vs : List Value) (k : Nat) (cs : Array Value), off + k + vs.length ≤ cs.size →
    ((vs.zipIdx k).foldl (fun cs (x : Value × Nat) => cs.setIfInBounds (off + x.2) x.1) cs).size = cs.size ∧
    ∀ i, ((vs.zipIdx k).foldl (fun cs (x : Value × Nat) => cs.setIfInBounds (off + x.2) x.1) cs)[i]? = if off + k ≤ i ∧ i < off + k + vs.length then vs[i - (off + k)]? else cs[i]?
  | [], k, cs, h => by simp; intro i h1 h2; omega
  | v :: r, k, cs, h => by
    simp only [List.zipIdx_cons, List.foldl_cons, List.length_cons] at h ⊢
    obtain ⟨h1, h2⟩ := fold_list off r (k + 1) (cs.setIfInBounds (off + k) v) (by simp; omega)
    refine ⟨by rw [h1]; simp, fun i => ?_⟩
    rw [h2]
    by_cases c1 : i = off + k
    · subst c1
      rw [if_neg (by omega), if_pos (by omega)]
      simp [show off + k < cs.size by omega]
    · by_cases c2 : off + (k + 1) ≤ i ∧ i < off + (k + 1) + r.length
      · rw [if_pos c2, if_pos (by omega)]
        rw [show i - (off + k) = (i - (off + (k + 1))) + 1 by omega, List.getElem?_cons_succ]
      · rw [if_neg c2, if_neg (by omega), Array.getElem?_setIfInBounds_ne (by omega)]

theorem getD_splice (l : List SV) (off : Nat) (xs : List SV) (h : off + xs.length ≤ l.length) (i : Nat) :
    (splice l off xs).getD i .any = if off ≤ i ∧ i < off + xs.length then xs.getD (i - off) .any else l.getD i .any := by
  simp only [splice, List.getD_eq_getElem?_getD, List.append_assoc]
  by_cases h1 : i < off
  · rw [if_neg (by omega), List.getElem?_append_left (by simp; omega), List.getElem?_take, if_pos h1]
  · rw [List.getElem?_append_right (by simp; omega)]
    simp only [List.length_take, Nat.min_eq_left (show off ≤ l.length by omega)]
    by_cases h2 : i < off + xs.length
    · rw [if_pos (by omega), List.getElem?_append_left (by omega)]
    · rw [if_neg (by omega), List.getElem?_append_right (by omega), List.getElem?_drop]
      congr 2
      omega

theorem length_splice (l : List SV) (off : Nat) (xs : List SV) (h : off + xs.length ≤ l.length) : (splice l off xs).length = l.length := by
  simp [splice]; omega

theorem repL_splice {st : St} {σ : Sig} {w : World} {l xs : List SV} {cs vs : Array Value} (off : Nat) (h1 : RepL st σ w l cs) (h2 : RepL st σ w xs vs) (h : off + xs.length ≤ l.length) :
    RepL st σ w (splice l off xs) (vs.zipIdx.foldl (fun cs (x : Value × Nat) => cs.setIfInBounds (off + x.2) x.1) cs) := by
  have key := fold_list off vs.toList 0 cs (by simp [h1.1, h2.1]; omega)
  have e : vs.zipIdx.foldl (fun cs (x : Value × Nat) => cs.setIfInBounds (off + x.2) x.1) cs = (vs.toList.zipIdx 0).foldl (fun cs (x : Value × Nat) => cs.setIfInBounds (off + x.2) x.1) cs := by
    rw [← Array.foldl_toList]; simp
  rw [e]
  obtain ⟨k1, k2⟩ := key
  refine ⟨by rw [k1, length_splice _ _ _ h]; exact h1.1, fun i hi => ?_⟩
  rw [length_splice _ _ _ h] at hi
  rw [getD_splice _ _ _ h]
  have k3 := k2 i
  simp only [Nat.add_zero, Array.length_toList, h2.1] at k3
  rw [Array.getD_eq_getD_getElem?, k3]
  split
  · rename_i hc
    rw [Array.getElem?_toList, ← Array.getD_eq_getD_getElem?]
    exact h2.2 _ (by omega)
  · rw [← Array.getD_eq_getD_getElem?]
    exact h1.2 _ hi

def aFill (place : Nat → Option (Nat × Nat)) (cells : List SV) : List (Nat × SV) → Option (List SV)
  | [] => some cells
  | (i, x) :: r => match place i with
    | none => none
    | some (off, size) => if shapeOk x = true ∧ x.cells.length = size ∧ off + x.cells.length ≤ cells.length then aFill place (splice cells off x.cells) r else none

theorem fill_of {st : St} {σ : Sig} {w : World} {place : Nat → Option (Nat × Nat)} : ∀ (xs : List (Nat × SV)) (vs : List (Nat × Value)) (l : List SV) (cs : Array Value) (l' : List SV),
    RepL st σ w l cs → xs.length = vs.length → (∀ (i : Nat) (x : Nat × SV) (v : Nat × Value), xs[i]? = some x → vs[i]? = some v → x.1 = v.1 ∧ Rep st σ w x.2 v.2) → aFill place l xs = some l' →
    ∃ cs', Instr.fill place cs vs = some cs' ∧ RepL st σ w l' cs'
  | [], vs, l, cs, l', h, hn, hr, hf => by
    cases vs with
    | nil => injection hf with hf; subst hf; exact ⟨cs, rfl, h⟩
    | cons v r => simp at hn
  | (i, x) :: xs, vs, l, cs, l', h, hn, hr, hf => by
    cases vs with
    | nil => simp at hn
    | cons v r =>
      obtain ⟨i', v⟩ := v
      obtain ⟨e, hrep⟩ := hr 0 _ _ rfl rfl
      simp only at e hrep
      subst e
      simp only [aFill] at hf
      split at hf
      · cases hf
      · rename_i off size hp
        split at hf
        · rename_i hc
          obtain ⟨c1, c2, c3⟩ := hc
          have hv := rep_cells c1 hrep
          obtain ⟨cs', k1, k2⟩ := fill_of xs r _ _ l' (repL_splice off h hv c3) (by simpa using hn) (fun j a b ha hb => hr (j + 1) a b ha hb) hf
          refine ⟨cs', ?_, k2⟩
          simp only [Instr.fill, hp]
          have e1 := hv.1
          have e2 := h.1
          rw [if_neg (by
            simp only [Bool.or_eq_true, decide_eq_true_eq]
            rintro (h' | h')
            · exact h' (e1.trans c2)
            · omega)]
          exact k1
        · cases hf

def aPlace (P : Program) (t : TypeId) (i : Nat) : Option (Nat × Nat) := aField P t i

def aBuild (P : Program) (t : TypeId) (parts : List (Nat × SV)) : Option (List SV) :=
  (aZero P t).bind fun z => aFill (aField P t) z parts

def aIsStruct (P : Program) (t : TypeId) : Bool := match P.underlying t with | some (.struct _) => true | _ => false

theorem mapM_places {fs : Array Field} (w : World) (h : ∀ g ∈ fs, (aSize P g.type).isSome = true) :
    (fs.mapM fun f => (Prod.mk f.offset <$> sizeOf f.type : Sem (Nat × Nat))).run P w = .ok (fs.map fun g => (g.offset, (aSize P g.type).getD 0)) w := by
  have key : ∀ l : List Field, (∀ g ∈ l, (aSize P g.type).isSome = true) → (l.mapM fun f => (Prod.mk f.offset <$> sizeOf f.type : Sem (Nat × Nat))).run P w = .ok (l.map fun g => (g.offset, (aSize P g.type).getD 0)) w := by
    intro l
    induction l with
    | nil => intro _; simp
    | cons g r ih =>
      intro hh
      have h1 := hh g (by simp)
      obtain ⟨n, hn⟩ := Option.isSome_iff_exists.1 h1
      simp [List.mapM_cons, run_sizeOf' hn, ih (fun x hx => hh x (by simp [hx])), hn]
  have := key fs.toList (fun g hg => h g (by simpa using hg))
  rw [Array.mapM_eq_mapM_toList]
  simp only [Sem.run_map, this, Result.andThen_ok]
  congr 1
  apply Array.ext'
  simp

def aFieldsOk (P : Program) (t : TypeId) : Bool := match P.underlying t with
  | some (.struct fs) => fs.all fun g => (aSize P g.type).isSome
  | _ => false

theorem aField_eq {t : TypeId} {fs : Array Field} (h : P.underlying t = some (.struct fs)) (ho : aFieldsOk P t = true) (i : Nat) :
    aField P t i = (fs.map fun g => (g.offset, (aSize P g.type).getD 0))[i]? := by
  simp only [aField, h, Option.bind_some, Array.getElem?_map]
  cases hg : fs[i]? with
  | none => rfl
  | some g =>
    simp only [aFieldsOk, h, Array.all_eq_true'] at ho
    have := ho g (Array.mem_of_getElem? hg)
    obtain ⟨n, hn⟩ := Option.isSome_iff_exists.1 this
    simp [hn]

theorem aop_build {o : Oper} {t : TypeId} {parts : Array (Nat × Operand)} {l : List SV} {K : SV → St → Prop} {env : List SV} {st : St} (ho : o.op = .build t parts)
    (hf : aFieldsOk P t = true) (hl : aBuild P t (parts.toList.map fun p => (p.1, ev env p.2)) = some l) (hk : K (.agg l) st) : AOp P o K env st :=
  aop_pure _ (fun σ w a hI hR => by
    unfold aBuild at hl
    cases hz : aZero P t with
    | none => simp [hz] at hl
    | some z =>
      simp only [hz, Option.bind_some] at hl
      obtain ⟨i, v, h1, h2, rfl⟩ := zero_of hz
      have hu : ∃ fs, P.underlying t = some (.struct fs) := by
        unfold aFieldsOk at hf
        split at hf
        · exact ⟨_, by assumption⟩
        · cases hf
      obtain ⟨fs, hu⟩ := hu
      have hpl : aField P t = ((fs.map fun g => (g.offset, (aSize P g.type).getD 0))[·]?) := funext fun i => aField_eq hu hf i
      rw [hpl] at hl
      obtain ⟨cs', k1, k2⟩ := fill_of (st := st) (σ := σ) (w := w) _ ((parts.map fun p => (p.1, a.eval p.2)).toList) _ v.cells l (repL_svOf _) (by simp) (fun j x y hx hy => by
        simp only [List.getElem?_map, Array.toList_map] at hx hy
        cases hp : parts.toList[j]? with
        | none => simp [hp] at hx
        | some p =>
          simp [hp] at hx hy
          subst hx; subst hy
          exact ⟨rfl, rep_ev hR _⟩) hl
      have hall : ∀ g ∈ fs, (aSize P g.type).isSome = true := by
        simp only [aFieldsOk, hu, Array.all_eq_true'] at hf
        exact hf
      refine ⟨.agg cs', ?_, .agg _ _ k2.1 k2.2⟩
      have hm := mapM_places (P := P) w hall
      simp [execOp, ho, Instr.build, run_zero' h1 h2, run_underlying hu]
      rw [hm]
      simp at k1
      simp [k1]) hk


/-! Slices that are made of their elements. -/

theorem fill_range {z : Nat} : ∀ (vs : List Value) (k : Nat) (cs : Array Value), (∀ v ∈ vs, v.cells.size = z) → (k + vs.length) * z ≤ cs.size →
    ∃ rs, Instr.fill (fun i => some (i * z, z)) cs ((vs.zipIdx k).map fun p => (p.2, p.1)) = some rs ∧ rs.size = cs.size ∧ (∀ p, p < k * z → rs[p]? = cs[p]?) ∧
      ∀ i j, i < vs.length → j < z → rs[(k + i) * z + j]? = (vs.getD i default).cells[j]?
  | [], k, cs, hz, hs => ⟨cs, rfl, rfl, fun _ _ => rfl, fun i j hi => absurd hi (Nat.not_lt_zero _)⟩
  | v :: r, k, cs, hz, hs => by
    have hv := hz v (by simp)
    have hk : (k + 1) * z = k * z + z := by rw [Nat.add_mul, Nat.one_mul]
    have hs' : (k + 1 + r.length) * z ≤ cs.size := by simpa [Nat.add_assoc, Nat.add_comm 1] using hs
    have hle : k * z + z ≤ cs.size := by
      have : (k + 1) * z ≤ (k + 1 + r.length) * z := Nat.mul_le_mul_right z (by omega)
      omega
    obtain ⟨f1, f2⟩ := fold_list (k * z) v.cells.toList 0 cs (by simp [hv]; exact hle)
    have e : v.cells.zipIdx.foldl (fun cs (x : Value × Nat) => cs.setIfInBounds (k * z + x.2) x.1) cs = (v.cells.toList.zipIdx 0).foldl (fun cs (x : Value × Nat) => cs.setIfInBounds (k * z + x.2) x.1) cs := by
      rw [← Array.foldl_toList]; simp
    obtain ⟨rs, g1, g2, g3, g4⟩ := fill_range r (k + 1) ((v.cells.toList.zipIdx 0).foldl (fun cs (x : Value × Nat) => cs.setIfInBounds (k * z + x.2) x.1) cs) (fun x hx => hz x (by simp [hx])) (by rw [f1]; exact hs')
    refine ⟨rs, ?_, by rw [g2, f1], fun p hp => ?_, fun i j hi hj => ?_⟩
    · simp only [List.zipIdx_cons, List.map_cons, Instr.fill]
      rw [if_neg (by
        simp only [Bool.or_eq_true, decide_eq_true_eq]
        rintro (h' | h')
        · exact h' hv
        · omega), e]
      exact g1
    · rw [g3 p (by omega), f2, if_neg (by omega)]
    · cases i with
      | zero =>
        have := g3 (k * z + j) (by omega)
        rw [Nat.add_zero, this, f2, if_pos (by simp [hv]; omega)]
        simp
      | succ i =>
        have := g4 i j (by simpa using hi) hj
        rw [show k + (i + 1) = k + 1 + i by omega, this]
        simp

theorem shapeOk_norm1 {x : SV} (h : shapeOk x = true) : shapeOk (norm1 x) = true := by cases x <;> first | exact h | rfl
theorem shapeOk_norm {x : SV} (h : shapeOk x = true) : shapeOk (norm x) = true := by cases x <;> first | exact h | rfl
theorem cells_norm (x : SV) : (norm x).cells.length = x.cells.length := by cases x <;> simp [norm, norm1, SV.cells]

theorem repL_list {st : St} {σ : Sig} {w : World} {x : SV} {v : Value} {z : Nat} (hs : shapeOk x = true) (h : Rep st σ w x v) (hz : x.cells.length = z) : v.cells.size = z := by
  rw [(rep_cells hs h).1, hz]

/-- The elements of a slice, in new memory at a block's beginning. -/
theorem rep_new_slice {st : St} {σ : Sig} {w : World} {z b cap : Nat} {xs : List SV} {vs : List Value} {m : Mode} (hl : xs.length = vs.length) (hs : ∀ x ∈ xs, shapeOk x = true ∧ x.cells.length = z)
    (hr : ∀ i, i < xs.length → Rep st σ w (xs.getD i .any) (vs.getD i default)) (hcap : xs.length ≤ cap)
    (hc : ∀ i j, i < xs.length → j < z → w.cell? ⟨b, i * z + j, none⟩ = (vs.getD i default).cells[j]? ∧ (σ.lock b).has (i * z + j))
    (hm : ModeOk st σ w z ⟨b, 0, none⟩ xs.length cap m) : Rep st σ w (.slice m z xs) (.slice (some ⟨b, 0, none⟩) xs.length cap) := by
  have hx : ∀ i, i < xs.length → shapeOk (xs.getD i .any) = true ∧ (xs.getD i .any).cells.length = z := by
    intro i hi
    have := hs (xs.getD i .any) (by simp [List.getD_eq_getElem?_getD, hi])
    exact this
  refine .slice m z xs ⟨b, 0, none⟩ cap (fun i j => (vs.getD i default).cells.getD j default) hcap (fun _ => rfl) (fun i hi => (hx i hi).2) (fun i j hi hj => ?_) (fun i j hi hj => ?_) hm
  · obtain ⟨h1, h2⟩ := hc i j hi hj
    have hsz := rep_cells (hx i hi).1 (hr i hi)
    have hj' : j < ((vs.getD i default).cells).size := by rw [hsz.1, (hx i hi).2]; exact hj
    simp only [Nat.zero_add]
    exact ⟨by rw [h1]; exact getD_some hj', h2⟩
  · have hsz := rep_cells (hx i hi).1 (hr i hi)
    exact hsz.2 j (by rw [(hx i hi).2]; exact hj)

theorem aop_buildSlice {o : Oper} {t e : TypeId} {len z : Nat} {parts : Array (Nat × Operand)} {zs : List SV} {K : SV → St → Prop} {env : List SV} {st : St}
    (ho : o.op = .buildSlice t len parts) (he : aElem P t = some e) (hz : aSize P e = some z) (hzero : aZero P e = some zs) (hzs : zs.length = z) (hidx : parts.toList.map (·.1) = List.range len) (hle : len * z ≤ 16777216)
    (hs : ∀ p ∈ parts.toList, shapeOk (ev env p.2) = true ∧ (ev env p.2).cells.length = z)
    (hk : K (.slice .full z (parts.toList.map fun p => norm (ev env p.2))) st) : AOp P o K env st :=
  aop_value fun σ w a hI hR => by
    obtain ⟨ti, tv, h1, h2, rfl⟩ := zero_of hzero
    have hlen : parts.toList.length = len := by have := congrArg List.length hidx; simpa using this
    let vs := parts.toList.map fun p => a.eval p.2
    have hvl : vs.length = len := by simp [vs, ← hlen]
    have hvz : ∀ v ∈ vs, v.cells.size = z := by
      intro v hv
      obtain ⟨p, hp, rfl⟩ := List.mem_map.1 hv
      obtain ⟨c1, c2⟩ := hs p hp
      exact repL_list c1 (rep_ev hR _) c2
    let cs0 : Array Value := (Array.range (len * z)).map ((if len * z = 0 then #[] else tv.cells)[· % (if len * z = 0 then #[] else tv.cells).size]!)
    obtain ⟨rs, f1, f2, f3, f4⟩ := fill_range (z := z) vs 0 cs0 hvz (by simp [cs0, hvl])
    have hparts : (parts.map fun p => (p.1, a.eval p.2)).toList = (vs.zipIdx 0).map fun p => (p.2, p.1) := by
      apply List.ext_getElem?
      intro i
      simp only [Array.toList_map, List.getElem?_map, List.getElem?_zipIdx, vs, Nat.zero_add]
      cases hp : parts.toList[i]? with
      | none => simp
      | some p =>
        have : (parts.toList.map (·.1))[i]? = some p.1 := by simp [hp]
        rw [hidx] at this
        have hi := lt_of_get this
        simp at hi
        rw [List.getElem?_range hi] at this
        simp at this
        simp [this]
    have hX := Ext.alloc hI (.cells rs e) .all
    refine ⟨.slice (some ⟨w.heap.size, 0, none⟩) len len, _, _, st, σ.setLock w.heap.size .all, ?_, hk, hI.alloc (.cells rs e) .all, ?_, hX⟩
    · have h16 : ¬ 16777216 < len * z := by omega
      by_cases h0 : len * z = 0
      · have e0 : cs0 = (Array.range (len * z)).map ((#[] : Array Value)[· % (#[] : Array Value).size]!) := by simp [cs0, h0]
        rw [e0, ← hparts] at f1
        simp [execOp, ho, Instr.buildSlice, run_underlying (und_slice he), run_sizeOf' hz, h16]
        simp [h0] at f1 ⊢
        simp [f1, newRow]
      · have e0 : cs0 = (Array.range (len * z)).map (tv.cells[· % tv.cells.size]!) := by simp only [cs0, if_neg h0]
        rw [e0, ← hparts] at f1
        simp [execOp, ho, Instr.buildSlice, run_underlying (und_slice he), run_sizeOf' hz, h16]
        simp [h0, run_zero' h1 h2] at f1 ⊢
        simp [f1, newRow]
    · have hxl : (parts.toList.map fun p => norm (ev env p.2)).length = len := by simp [← hlen]
      have key := rep_new_slice (st := st) (σ := σ.setLock w.heap.size .all) (w := { w with heap := w.heap.push (.cells rs e) }) (z := z) (b := w.heap.size) (cap := len)
        (xs := parts.toList.map fun p => norm (ev env p.2)) (vs := vs) (m := .full) (by rw [hxl, hvl]) (fun x hx => by
          obtain ⟨p, hp, rfl⟩ := List.mem_map.1 hx
          obtain ⟨c1, c2⟩ := hs p hp
          exact ⟨shapeOk_norm c1, by rw [cells_norm]; exact c2⟩) (fun i hi => by
          rw [hxl] at hi
          have hi' : i < parts.toList.length := by omega
          have := (rep_ev hR (parts.toList[i]).2).norm.ext hX
          simpa [List.getD_eq_getElem?_getD, vs, show i < parts.size by simpa using hi'] using this) (by omega) (fun i j hi hj => by
          rw [hxl] at hi
          refine ⟨?_, has_all _ _ _⟩
          rw [cell?_push_new]
          have := f4 i j (by omega) hj
          simpa using this) (by simp [ModeOk, hxl])
      rw [hxl] at key
      exact key

end Go.AL
